/- Fm1 Fm2, merged. -/
import Derived.Test.YtcheigpejbmaoaaDoorTx1
import Derived.Test.YtcheigpejbmaoaaDoorAs9
import Derived.Test.YtcheigpejbmaoaaDoorAsT
/- Statements are written: the loop over a body; assert. Printed by gen/fm1.py. -/
namespace Go.Proofs.YtcheigpejbmaoaaDoor
open Go.RowKit
/-- The contract of writeStmt, of writeBody. -/
def WSt (x : S) : Prop := ∀ (w0 : World) (b : Nat) (l : List UInt8) (v : Value) (w : World), InS w0 x → Tab w0 → Ext w0 w → BX b l v w → Past w0.heap.size b v → l.length + (txS x).length ≤ 140737488355328 →
  Calls Tryd.prog 49 #[.pointer (some ⟨b, 0, none⟩), x.v] w fun r w' => r = .returned (.tuple #[]) ∧ ∃ v', Aft b v w (l ++ txS x) v' w'
def WSs (A : List S) : Prop := ∀ (w0 : World) (b : Nat) (l : List UInt8) (v : Value) (w : World) (n : Nat) (_ : A.length = n) (a : Option Addr) (c : Nat), InB w0 a A → Tab w0 → Ext w0 w → BX b l v w → Past w0.heap.size b v → l.length + (txSs A).length ≤ 140737488355328 →
  Calls Tryd.prog 73 #[.pointer (some ⟨b, 0, none⟩), .slice a n c] w fun r w' => r = .returned (.tuple #[]) ∧ ∃ v', Aft b v w (l ++ txSs A) v' w'
def LnRel {T : Type} (sep : UInt8) (tx : T → List UInt8) (A : List T) (b : Nat) (v : Value) (l : List UInt8) (w : World) (s : Value) (wr : World) : Prop := ∃ (j : Nat) (v' : Value), s = .int .i64 j ∧ j ≤ A.length ∧ Aft b v w (l ++ linesL sep tx (A.take j)) v' wr
theorem linesL_le {T : Type} (sep : UInt8) (tx : T → List UInt8) : ∀ (A : List T) (j : Nat), (linesL sep tx (A.take j)).length ≤ (linesL sep tx A).length
  | [], j => by simp
  | t :: ts, 0 => by simp [linesL]
  | t :: ts, j + 1 => by
    have := linesL_le sep tx ts j
    simp only [List.take_succ_cons, linesL, List.length_append, List.length_cons]
    omega
theorem linesL_take {T : Type} (sep : UInt8) (tx : T → List UInt8) {A : List T} {j : Nat} {x : T} (h : A[j]? = some x) : linesL sep tx (A.take (j + 1)) = linesL sep tx (A.take j) ++ (tx x ++ [sep]) := by rw [take_snoc h, linesL_snoc]
theorem writeE1 {e : E} (hok : okE e = true) {w0 : World} {b : Nat} (he : InE w0 e) (ht : Tab w0) (l : List UInt8) (v : Value) (w : World) (h1 : Ext w0 w) (h2 : BX b l v w) (h3 : Past w0.heap.size b v) (h4 : l.length + (txB e).length ≤ 140737488355328) :
    Calls Tryd.prog 57 #[.pointer (some ⟨b, 0, none⟩), e.v, .int .i64 1] w fun x w' => x = .returned (.tuple #[]) ∧ ∃ v', Aft b v w (l ++ txB e) v' w' := by
  have q := writeAll _ e (Nat.lt_succ_self _) hok w0 b l v w 1 he ht h1 h2 h3 (by rw [par_one]; exact h4)
  rw [par_one] at q; exact q
theorem mkSize (l : List UInt8) : (⟨l.toArray⟩ : ByteArray).size = l.length := rfl
theorem tyTx_le {k b n : Int} (h : tyOk k b n = true) : (tyTx k b n).length ≤ 47 := by
  unfold tyOk at h
  simp only [Bool.and_eq_true, decide_eq_true_eq] at h
  obtain ⟨h0, h64, hk⟩ := h
  have hn := digits_le n.toNat (by omega)
  have hB : (tyB n).length ≤ 22 := by
    unfold tyB
    by_cases q : 0 < n
    · rw [if_pos q]; simp only [List.length_append, List.length_cons, List.length_nil]; omega
    · rw [if_neg q]; exact Nat.zero_le _
  have hA : (tyA k b).length ≤ 25 := by
    unfold tyA
    by_cases q2 : k = 2
    · rw [if_pos q2]; decide
    · rw [if_neg q2]
      by_cases q3 : k = 3
      · rw [if_pos q3]
        rw [if_neg (by omega), if_pos q3] at hk
        simp only [Bool.and_eq_true, decide_eq_true_eq] at hk
        have hb := digits_le b.toNat (by omega)
        simp only [List.length_append, List.length_cons, List.length_nil]; omega
      · rw [if_neg q3]; decide
  unfold tyTx
  rw [List.length_append]; omega
theorem nameOk_le {n : ByteArray} (h : nameOk n = true) : n.size ≤ 24 := by
  unfold nameOk at h
  simp only [Bool.and_eq_true, decide_eq_true_eq] at h
  exact h.1.1.1.2
set_option maxRecDepth 100000 in
set_option maxHeartbeats 4000000 in
theorem writeBody_c (A : List S) (hw : ∀ (i : Nat) x, A[i]? = some x → WSt x) : WSs A := by
  intro w0 b l v w n hn a c hin ht hx hb hp hlen
  rw [txSs_lines] at hlen ⊢
  have HX := Lib.hid hx
  have HBX := Lib.hid hb
  have HP := Lib.hid hp
  have HL := Lib.hid hin
  have HLEN := Lib.hid hlen
  have HW := Lib.hid (fun (i : Nat) x (h : A[i]? = some x) l v w h1 h2 h3 h4 h5 => hw i x h w0 b l v w h1 ht h2 h3 h4 h5)
  have HN := Lib.hid hn
  have hcap : n ≤ 9223372036854775807 := by rw [← hn]; exact Nat.le_trans hin.2 (by decide)
  clear hx hb hp hin hw hlen hn ht
  go_enter Tryd.func73, Tryd.ntmps73
  go_wp2_with fail
  go_loopw [8] (LnRel 32 txS A b v l w) (fun s _ => n - (intOf s).toNat)
  case atStart => exact ⟨0, v, rfl, Nat.zero_le _, by simpa [linesL] using Aft.ofExt HBX.out (Ext.refl _)⟩
  case round =>
    obtain ⟨j, v1, rfl, hj, haf⟩ := hrel
    rw [HN.out] at hj
    have HA := Lib.hid haf
    clear haf
    by_cases hlt : j < n
    · obtain ⟨x, hxj⟩ := getE (l := A) (i := j) (by rw [HN.out]; exact hlt)
      have HE1 := Lib.hid (HA.out.ext HX.out HP.out)
      obtain ⟨⟨ab, o, rfl, k0, k1, k2, k3, k4, k5, k6, k7, k8, k9, k10, k11, k12⟩, hin⟩ := (HL.out.to HE1.out).at hxj
      have HIN0 := Lib.hid (HL.out.at hxj).2
      have ES := Lib.hid (linesL_take 32 txS hxj)
      have HLJ := linesL_le 32 txS A (j + 1)
      have PC := HW.out j x hxj
      unfold S.v at PC
      obtain ⟨P, hP⟩ : ∃ q, q = linesL 32 txS (A.take j) := ⟨_, rfl⟩
      obtain ⟨Q, hQ⟩ : ∃ q, q = txS x := ⟨_, rfl⟩
      rw [← hP] at ES HA
      rw [← hQ] at ES PC
      rw [ES.out] at HLJ
      have HLQ : Hid (l.length + (P.length + (Q.length + 1)) ≤ 140737488355328) := Lib.hid (by have := HLEN.out; simp only [List.length_append, List.length_cons, List.length_nil] at HLJ; omega)
      clear hP hQ HLJ hxj hin
      obtain ⟨xq0, hxq0⟩ : ∃ q, q = x.kind := ⟨_, rfl⟩
      obtain ⟨xq1, hxq1⟩ : ∃ q, q = x.name := ⟨_, rfl⟩
      obtain ⟨xq2, hxq2⟩ : ∃ q, q = x.typed := ⟨_, rfl⟩
      obtain ⟨xq3, hxq3⟩ : ∃ q, q = x.t.k := ⟨_, rfl⟩
      obtain ⟨xq4, hxq4⟩ : ∃ q, q = x.t.b := ⟨_, rfl⟩
      obtain ⟨xq5, hxq5⟩ : ∃ q, q = x.t.n := ⟨_, rfl⟩
      obtain ⟨xq6, hxq6⟩ : ∃ q, q = x.e.op := ⟨_, rfl⟩
      obtain ⟨xq7, hxq7⟩ : ∃ q, q = x.e.val := ⟨_, rfl⟩
      obtain ⟨xq8, hxq8⟩ : ∃ q, q = x.e.name := ⟨_, rfl⟩
      obtain ⟨xq9, hxq9⟩ : ∃ q, q = x.e.a := ⟨_, rfl⟩
      obtain ⟨xq10, hxq10⟩ : ∃ q, q = x.e.args.length := ⟨_, rfl⟩
      obtain ⟨xq11, hxq11⟩ : ∃ q, q = x.e.cap := ⟨_, rfl⟩
      obtain ⟨xq12, hxq12⟩ : ∃ q, q = x.lo := ⟨_, rfl⟩
      obtain ⟨xq13, hxq13⟩ : ∃ q, q = x.hi := ⟨_, rfl⟩
      obtain ⟨xq14, hxq14⟩ : ∃ q, q = x.a := ⟨_, rfl⟩
      obtain ⟨xq15, hxq15⟩ : ∃ q, q = x.body.length := ⟨_, rfl⟩
      obtain ⟨xq16, hxq16⟩ : ∃ q, q = x.cap := ⟨_, rfl⟩
      simp only [← hxq0, ← hxq1, ← hxq2, ← hxq3, ← hxq4, ← hxq5, ← hxq6, ← hxq7, ← hxq8, ← hxq9, ← hxq10, ← hxq11, ← hxq12, ← hxq13, ← hxq14, ← hxq15, ← hxq16] at k0 k1 k2 k3 k4 k5 k6 k7 k8 k9 k10 k11 k12 PC
      clear hxq0 hxq1 hxq2 hxq3 hxq4 hxq5 hxq6 hxq7 hxq8 hxq9 hxq10 hxq11 hxq12 hxq13 hxq14 hxq15 hxq16
      have HPC := Lib.hid PC
      clear PC
      go_wp2_with fail
      have HA2 := Lib.hid (HA.out.grow ((Ext.refl _).alloc (.cells #[.int .i64 xq0, .string xq1, .bool xq2, .int .i64 xq3, .int .i64 xq4, .int .i64 xq5, .int .i64 xq6, .int .u64 (xq7 : Int), .string xq8, .slice xq9 xq10 xq11, .int .i64 xq12, .int .i64 xq13, .slice xq14 xq15 xq16] 61)))
      refine (HPC.out _ _ _ HIN0.out (HE1.out.trans ((Ext.refl _).alloc _)) HA2.out.bx (HA2.out.past HX.out.size HP.out) (by have q := HLQ.out; simp only [List.length_append] at q ⊢; omega)).mono ?_; rintro e1 wn ⟨rfl, vn, ha⟩
      have HA3 := Lib.hid (HA2.out.trans ha)
      clear ha k0 k1 k2 k3 k4 k5 k6 k7 k8 k9 k10 k11 k12
      go_wp2_with fail
      refine (WriteString_c b _ _ ⟨#[32]⟩ _ HA3.out.bx (by have q := HLQ.out; rw [lenS]; simp only [List.length_append, List.length_cons, List.length_nil] at q ⊢; omega)).mono ?_; rintro e2 wn2 ⟨rfl, vn2, ha⟩
      have HA4 := Lib.hid (HA3.out.trans ha)
      clear ha
      go_wp2_with fail
      go_roundw
      case rel =>
        refine ⟨j + 1, vn2, by go_num, by rw [HN.out]; omega, ?_⟩
        rw [ES.out]
        have q := HA4.out
        simp only [List.append_assoc] at q ⊢
        exact q
      case measure => simp [intOf]; omega
    · obtain rfl : j = n := by omega
      have ET : Hid (A.take j = A) := Lib.hid (List.take_of_length_le (by rw [HN.out]; exact Nat.le_refl _))
      rw [ET.out] at HA
      go_wp2_with fail
      go_end0
      exact ⟨rfl, _, HA.out⟩
set_option maxRecDepth 100000 in
set_option maxHeartbeats 8000000 in
theorem writeStmt_2 (x : S) (hk : x.kind = 2) (hok : okS x = true) : WSt x := by
  intro w0 b l v w he ht hx hb hp hlen
  have HX := Lib.hid hx
  have HBX := Lib.hid hb
  have HP := Lib.hid hp
  have HTB := Lib.hid ht
  have HT := txS_eq x
  have HLEN := Lib.hid hlen
  have bd := he.bd
  rw [hk, if_neg (by decide), if_pos rfl] at HT
  rw [okS_eq, hk, if_neg (by decide), if_pos rfl] at hok
  simp only [Bool.and_eq_true, decide_eq_true_eq] at hok
  obtain ⟨-, -, oke, -, -, -⟩ := hok
  have HWE := fun l v w h1 h2 h3 h4 => writeE1 (b := b) oke he.e ht l v w h1 h2 h3 h4
  replace HT : txS x = (⟨#[97, 115, 115, 101, 114, 116, 32]⟩ : ByteArray).data.toList ++ (txB x.e ++ (⟨#[59]⟩ : ByteArray).data.toList) := HT
  obtain ⟨T, hT⟩ : ∃ q, q = txS x := ⟨_, rfl⟩
  obtain ⟨te, hte⟩ : ∃ q, q = txB x.e := ⟨_, rfl⟩
  rw [← hT] at HT HLEN ⊢
  rw [← hte] at HT
  simp only [← hte] at HWE
  unfold E.v at HWE
  unfold S.v
  rw [hk]
  clear hT hte hx hb hp ht he hlen bd oke hk
  obtain ⟨xq0, hxq0⟩ : ∃ q, q = x.kind := ⟨_, rfl⟩
  obtain ⟨xq1, hxq1⟩ : ∃ q, q = x.name := ⟨_, rfl⟩
  obtain ⟨xq2, hxq2⟩ : ∃ q, q = x.typed := ⟨_, rfl⟩
  obtain ⟨xq3, hxq3⟩ : ∃ q, q = x.t.k := ⟨_, rfl⟩
  obtain ⟨xq4, hxq4⟩ : ∃ q, q = x.t.b := ⟨_, rfl⟩
  obtain ⟨xq5, hxq5⟩ : ∃ q, q = x.t.n := ⟨_, rfl⟩
  obtain ⟨xq6, hxq6⟩ : ∃ q, q = x.e.op := ⟨_, rfl⟩
  obtain ⟨xq7, hxq7⟩ : ∃ q, q = x.e.val := ⟨_, rfl⟩
  obtain ⟨xq8, hxq8⟩ : ∃ q, q = x.e.name := ⟨_, rfl⟩
  obtain ⟨xq9, hxq9⟩ : ∃ q, q = x.e.a := ⟨_, rfl⟩
  obtain ⟨xq10, hxq10⟩ : ∃ q, q = x.e.args.length := ⟨_, rfl⟩
  obtain ⟨xq11, hxq11⟩ : ∃ q, q = x.e.cap := ⟨_, rfl⟩
  obtain ⟨xq12, hxq12⟩ : ∃ q, q = x.lo := ⟨_, rfl⟩
  obtain ⟨xq13, hxq13⟩ : ∃ q, q = x.hi := ⟨_, rfl⟩
  obtain ⟨xq14, hxq14⟩ : ∃ q, q = x.a := ⟨_, rfl⟩
  obtain ⟨xq15, hxq15⟩ : ∃ q, q = x.body.length := ⟨_, rfl⟩
  obtain ⟨xq16, hxq16⟩ : ∃ q, q = x.cap := ⟨_, rfl⟩
  simp only [← hxq0, ← hxq1, ← hxq2, ← hxq3, ← hxq4, ← hxq5, ← hxq6, ← hxq7, ← hxq8, ← hxq9, ← hxq10, ← hxq11, ← hxq12, ← hxq13, ← hxq14, ← hxq15, ← hxq16] at HWE ⊢
  clear hxq0 hxq1 hxq2 hxq3 hxq4 hxq5 hxq6 hxq7 hxq8 hxq9 hxq10 hxq11 hxq12 hxq13 hxq14 hxq15 hxq16
  replace HT := Lib.hid HT
  replace HWE := Lib.hid HWE
  go_enter Tryd.func49, Tryd.ntmps49
  go_wp2_with fail
  obtain ⟨wb, hwb⟩ : ∃ q, q = w.alloc (.cells #[.int .i64 2, .string xq1, .bool xq2, .int .i64 xq3, .int .i64 xq4, .int .i64 xq5, .int .i64 xq6, .int .u64 (xq7 : Int), .string xq8, .slice xq9 xq10 xq11, .int .i64 xq12, .int .i64 xq13, .slice xq14 xq15 xq16] 61) := ⟨_, rfl⟩
  have c0 : wb.cell? ⟨w.heap.size, 0, none⟩ = some (.int .i64 2) := by rw [hwb]; simp
  have C0 := Lib.hid c0
  have c6 : wb.cell? ⟨w.heap.size, 6, none⟩ = some (.int .i64 xq6) := by rw [hwb]; simp
  have C6 := Lib.hid c6
  have c7 : wb.cell? ⟨w.heap.size, 7, none⟩ = some (.int .u64 (xq7 : Int)) := by rw [hwb]; simp
  have C7 := Lib.hid c7
  have c8 : wb.cell? ⟨w.heap.size, 8, none⟩ = some (.string xq8) := by rw [hwb]; simp
  have C8 := Lib.hid c8
  have c9 : wb.cell? ⟨w.heap.size, 9, none⟩ = some (.slice xq9 xq10 xq11) := by rw [hwb]; simp
  have C9 := Lib.hid c9
  have HXB : Hid (Ext w wb) := Lib.hid (by rw [hwb]; exact (Ext.refl _).alloc _)
  have HX0 : Hid (Ext w0 wb) := Lib.hid (HX.out.trans HXB.out)
  have HA : Hid (Aft b v wb l v wb) := Lib.hid (Aft.ofExt (HBX.out.ext HXB.out) (Ext.refl _))
  have NB : Hid (w.heap.size ≠ b) := Lib.hid (by have := HBX.out.lt; omega)
  have NV : Hid (v.ownBlock ≠ some w.heap.size) := Lib.hid (fun q => by have := HBX.out.own q; omega)
  rw [← hwb]
  clear hwb
  refine (WriteString_c b _ _ ⟨#[97, 115, 115, 101, 114, 116, 32]⟩ _ HA.out.bx (by have q := HLEN.out; rw [HT.out] at q; rw [lenS]; (try simp only [List.length_append] at q ⊢); omega)).mono ?_; rintro e1 wn ⟨rfl, vn, ha⟩
  have HA := Lib.hid (HA.out.trans ha)
  clear ha
  clear c0 c6 c7 c8 c9
  have c6 := HA.out.cell C6.out NB.out NV.out
  have c7 := HA.out.cell C7.out NB.out NV.out
  have c8 := HA.out.cell C8.out NB.out NV.out
  have c9 := HA.out.cell C9.out NB.out NV.out
  go_wp2_with fail
  refine (HWE.out _ _ _ (HA.out.ext HX0.out HP.out) HA.out.bx (HA.out.past HX0.out.size HP.out) (by have q := HLEN.out; rw [HT.out] at q; (try simp only [List.length_append] at q ⊢); omega)).mono ?_; rintro e1 wn ⟨rfl, vn, ha⟩
  have HA := Lib.hid (HA.out.trans ha)
  clear ha
  clear c6 c7 c8 c9
  go_wp2_with fail
  refine (WriteString_c b _ _ ⟨#[59]⟩ _ HA.out.bx (by have q := HLEN.out; rw [HT.out] at q; rw [lenS]; (try simp only [List.length_append] at q ⊢); omega)).mono ?_; rintro e1 wn ⟨rfl, vn, ha⟩
  have HA := Lib.hid (HA.out.trans ha)
  clear ha
  go_wp2_with fail
  first | go_end0 | ((try simp only [Exit.inBlock, Exit.then]); refine bodyPost_ret (results_none rfl _ _ _) rfl ?_)
  refine ⟨rfl, vn, Aft.start HBX.out HXB.out ?_⟩
  have q := HA.out
  (try simp only [List.append_assoc] at q)
  rw [HT.out]
  exact q
end Go.Proofs.YtcheigpejbmaoaaDoor

/- Statements are written: let. Printed by gen/fm1.py. -/
namespace Go.Proofs.YtcheigpejbmaoaaDoor
open Go.RowKit
set_option maxRecDepth 100000 in
set_option maxHeartbeats 8000000 in
theorem writeStmt_1t (x : S) (hk : x.kind = 1) (hok : okS x = true) (hty : x.typed = true) : WSt x := by
  intro w0 b l v w he ht hx hb hp hlen
  have HX := Lib.hid hx
  have HBX := Lib.hid hb
  have HP := Lib.hid hp
  have HTB := Lib.hid ht
  have HT := txS_eq x
  have HLEN := Lib.hid hlen
  have bd := he.bd
  rw [hk, if_pos rfl, hty] at HT
  rw [okS_eq, if_pos hk, hty] at hok
  simp only [Bool.and_eq_true, decide_eq_true_eq, if_true] at hok
  obtain ⟨okt, okn, oke, -, -, -⟩ := hok
  have hnm := nameOk_le okn
  have HWE := fun l v w h1 h2 h3 h4 => writeE1 (b := b) oke he.e ht l v w h1 h2 h3 h4
  have TC := fun w' h => typeText_c x.t.k x.t.b x.t.n w' h okt
  obtain ⟨Y, hY⟩ : ∃ q : ByteArray, q = ⟨(tyTx x.t.k x.t.b x.t.n).toArray⟩ := ⟨_, rfl⟩
  have hYs : Y.size ≤ 47 := by rw [hY, mkSize]; exact tyTx_le okt
  have HY : Hid (tyTx x.t.k x.t.b x.t.n = Y.data.toList) := Lib.hid (by rw [hY])
  simp only [← hY] at TC
  obtain ⟨M, hM⟩ : ∃ q : ByteArray, q = ⟨#[58, 32]⟩ ++ Y := ⟨_, rfl⟩
  have tm : ¬ 9223372036854775807 < 2 + Y.size := by omega
  have HMM := Lib.hid hM
  obtain ⟨N, hN⟩ : ∃ q : ByteArray, q = ⟨#[108, 101, 116, 32]⟩ ++ x.name := ⟨_, rfl⟩
  have tn : ¬ 9223372036854775807 < 4 + x.name.size := by omega
  replace HT : txS x = N.data.toList ++ (M.data.toList ++ ((⟨#[32, 61, 32]⟩ : ByteArray).data.toList ++ (txB x.e ++ (⟨#[59]⟩ : ByteArray).data.toList))) := by
    rw [HT, if_pos rfl, hN, hM, baApp, baApp, ← HY.out]; simp
  obtain ⟨T, hT⟩ : ∃ q, q = txS x := ⟨_, rfl⟩
  obtain ⟨te, hte⟩ : ∃ q, q = txB x.e := ⟨_, rfl⟩
  rw [← hT] at HT HLEN ⊢
  rw [← hte] at HT
  simp only [← hte] at HWE
  unfold E.v at HWE
  unfold S.v
  rw [hk, hty]
  clear hT hte hY hM okt hYs hx hb hp ht he hlen bd okn oke hnm hk hty
  obtain ⟨xq0, hxq0⟩ : ∃ q, q = x.kind := ⟨_, rfl⟩
  obtain ⟨xq1, hxq1⟩ : ∃ q, q = x.name := ⟨_, rfl⟩
  obtain ⟨xq2, hxq2⟩ : ∃ q, q = x.typed := ⟨_, rfl⟩
  obtain ⟨xq3, hxq3⟩ : ∃ q, q = x.t.k := ⟨_, rfl⟩
  obtain ⟨xq4, hxq4⟩ : ∃ q, q = x.t.b := ⟨_, rfl⟩
  obtain ⟨xq5, hxq5⟩ : ∃ q, q = x.t.n := ⟨_, rfl⟩
  obtain ⟨xq6, hxq6⟩ : ∃ q, q = x.e.op := ⟨_, rfl⟩
  obtain ⟨xq7, hxq7⟩ : ∃ q, q = x.e.val := ⟨_, rfl⟩
  obtain ⟨xq8, hxq8⟩ : ∃ q, q = x.e.name := ⟨_, rfl⟩
  obtain ⟨xq9, hxq9⟩ : ∃ q, q = x.e.a := ⟨_, rfl⟩
  obtain ⟨xq10, hxq10⟩ : ∃ q, q = x.e.args.length := ⟨_, rfl⟩
  obtain ⟨xq11, hxq11⟩ : ∃ q, q = x.e.cap := ⟨_, rfl⟩
  obtain ⟨xq12, hxq12⟩ : ∃ q, q = x.lo := ⟨_, rfl⟩
  obtain ⟨xq13, hxq13⟩ : ∃ q, q = x.hi := ⟨_, rfl⟩
  obtain ⟨xq14, hxq14⟩ : ∃ q, q = x.a := ⟨_, rfl⟩
  obtain ⟨xq15, hxq15⟩ : ∃ q, q = x.body.length := ⟨_, rfl⟩
  obtain ⟨xq16, hxq16⟩ : ∃ q, q = x.cap := ⟨_, rfl⟩
  simp only [← hxq0, ← hxq1, ← hxq2, ← hxq3, ← hxq4, ← hxq5, ← hxq6, ← hxq7, ← hxq8, ← hxq9, ← hxq10, ← hxq11, ← hxq12, ← hxq13, ← hxq14, ← hxq15, ← hxq16] at HWE hN tn ⊢ TC
  clear hxq0 hxq1 hxq2 hxq3 hxq4 hxq5 hxq6 hxq7 hxq8 hxq9 hxq10 hxq11 hxq12 hxq13 hxq14 hxq15 hxq16
  replace HT := Lib.hid HT
  replace HWE := Lib.hid HWE
  have HNN := Lib.hid hN
  clear hN
  replace TC := Lib.hid TC
  go_enter Tryd.func49, Tryd.ntmps49
  go_wp2_with fail
  obtain ⟨wb, hwb⟩ : ∃ q, q = w.alloc (.cells #[.int .i64 1, .string xq1, .bool true, .int .i64 xq3, .int .i64 xq4, .int .i64 xq5, .int .i64 xq6, .int .u64 (xq7 : Int), .string xq8, .slice xq9 xq10 xq11, .int .i64 xq12, .int .i64 xq13, .slice xq14 xq15 xq16] 61) := ⟨_, rfl⟩
  have c0 : wb.cell? ⟨w.heap.size, 0, none⟩ = some (.int .i64 1) := by rw [hwb]; simp
  have C0 := Lib.hid c0
  have c1 : wb.cell? ⟨w.heap.size, 1, none⟩ = some (.string xq1) := by rw [hwb]; simp
  have C1 := Lib.hid c1
  have c2 : wb.cell? ⟨w.heap.size, 2, none⟩ = some (.bool true) := by rw [hwb]; simp
  have C2 := Lib.hid c2
  have c3 : wb.cell? ⟨w.heap.size, 3, none⟩ = some (.int .i64 xq3) := by rw [hwb]; simp
  have C3 := Lib.hid c3
  have c4 : wb.cell? ⟨w.heap.size, 4, none⟩ = some (.int .i64 xq4) := by rw [hwb]; simp
  have C4 := Lib.hid c4
  have c5 : wb.cell? ⟨w.heap.size, 5, none⟩ = some (.int .i64 xq5) := by rw [hwb]; simp
  have C5 := Lib.hid c5
  have c6 : wb.cell? ⟨w.heap.size, 6, none⟩ = some (.int .i64 xq6) := by rw [hwb]; simp
  have C6 := Lib.hid c6
  have c7 : wb.cell? ⟨w.heap.size, 7, none⟩ = some (.int .u64 (xq7 : Int)) := by rw [hwb]; simp
  have C7 := Lib.hid c7
  have c8 : wb.cell? ⟨w.heap.size, 8, none⟩ = some (.string xq8) := by rw [hwb]; simp
  have C8 := Lib.hid c8
  have c9 : wb.cell? ⟨w.heap.size, 9, none⟩ = some (.slice xq9 xq10 xq11) := by rw [hwb]; simp
  have C9 := Lib.hid c9
  have c10 : wb.cell? ⟨w.heap.size, 10, none⟩ = some (.int .i64 xq12) := by rw [hwb]; simp
  have C10 := Lib.hid c10
  have c11 : wb.cell? ⟨w.heap.size, 11, none⟩ = some (.int .i64 xq13) := by rw [hwb]; simp
  have C11 := Lib.hid c11
  have c12 : wb.cell? ⟨w.heap.size, 12, none⟩ = some (.slice xq14 xq15 xq16) := by rw [hwb]; simp
  have C12 := Lib.hid c12
  have HXB : Hid (Ext w wb) := Lib.hid (by rw [hwb]; exact (Ext.refl _).alloc _)
  have HX0 : Hid (Ext w0 wb) := Lib.hid (HX.out.trans HXB.out)
  have HA : Hid (Aft b v wb l v wb) := Lib.hid (Aft.ofExt (HBX.out.ext HXB.out) (Ext.refl _))
  have NB : Hid (w.heap.size ≠ b) := Lib.hid (by have := HBX.out.lt; omega)
  have NV : Hid (v.ownBlock ≠ some w.heap.size) := Lib.hid (fun q => by have := HBX.out.own q; omega)
  rw [← hwb]
  clear hwb
  rw [← HNN.out]
  refine (WriteString_c b _ _ N _ HA.out.bx (by have q := HLEN.out; rw [HT.out] at q; rw [lenS]; (try simp only [List.length_append] at q ⊢); omega)).mono ?_; rintro e1 wn ⟨rfl, vn, ha⟩
  have HA := Lib.hid (HA.out.trans ha)
  clear ha
  clear c0 c1 c2 c3 c4 c5 c6 c7 c8 c9 c10 c11 c12 tn
  have c2 := HA.out.cell C2.out NB.out NV.out
  have c3 := HA.out.cell C3.out NB.out NV.out
  have c4 := HA.out.cell C4.out NB.out NV.out
  have c5 := HA.out.cell C5.out NB.out NV.out
  go_wp2_with fail
  refine (TC.out _ (HTB.out.ext (HA.out.ext HX0.out HP.out))).mono ?_; rintro e1 wn ⟨rfl, x2⟩
  have HA := Lib.hid (HA.out.grow x2)
  clear x2 c2 c3 c4 c5
  go_wp2_with fail
  rw [← HMM.out]
  refine (WriteString_c b _ _ M _ HA.out.bx (by have q := HLEN.out; rw [HT.out] at q; rw [lenS]; (try simp only [List.length_append] at q ⊢); omega)).mono ?_; rintro e1 wn ⟨rfl, vn, ha⟩
  have HA := Lib.hid (HA.out.trans ha)
  clear ha
  clear tm
  go_wp2_with fail
  refine (WriteString_c b _ _ ⟨#[32, 61, 32]⟩ _ HA.out.bx (by have q := HLEN.out; rw [HT.out] at q; rw [lenS]; (try simp only [List.length_append] at q ⊢); omega)).mono ?_; rintro e1 wn ⟨rfl, vn, ha⟩
  have HA := Lib.hid (HA.out.trans ha)
  clear ha
  have c6 := HA.out.cell C6.out NB.out NV.out
  have c7 := HA.out.cell C7.out NB.out NV.out
  have c8 := HA.out.cell C8.out NB.out NV.out
  have c9 := HA.out.cell C9.out NB.out NV.out
  go_wp2_with fail
  refine (HWE.out _ _ _ (HA.out.ext HX0.out HP.out) HA.out.bx (HA.out.past HX0.out.size HP.out) (by have q := HLEN.out; rw [HT.out] at q; (try simp only [List.length_append] at q ⊢); omega)).mono ?_; rintro e1 wn ⟨rfl, vn, ha⟩
  have HA := Lib.hid (HA.out.trans ha)
  clear ha
  clear c6 c7 c8 c9
  go_wp2_with fail
  refine (WriteString_c b _ _ ⟨#[59]⟩ _ HA.out.bx (by have q := HLEN.out; rw [HT.out] at q; rw [lenS]; (try simp only [List.length_append] at q ⊢); omega)).mono ?_; rintro e1 wn ⟨rfl, vn, ha⟩
  have HA := Lib.hid (HA.out.trans ha)
  clear ha
  go_wp2_with fail
  first | go_end0 | ((try simp only [Exit.inBlock, Exit.then]); refine bodyPost_ret (results_none rfl _ _ _) rfl ?_)
  refine ⟨rfl, vn, Aft.start HBX.out HXB.out ?_⟩
  have q := HA.out
  (try simp only [List.append_assoc] at q)
  rw [HT.out]
  exact q
set_option maxRecDepth 100000 in
set_option maxHeartbeats 8000000 in
theorem writeStmt_1u (x : S) (hk : x.kind = 1) (hok : okS x = true) (hty : x.typed = false) : WSt x := by
  intro w0 b l v w he ht hx hb hp hlen
  have HX := Lib.hid hx
  have HBX := Lib.hid hb
  have HP := Lib.hid hp
  have HTB := Lib.hid ht
  have HT := txS_eq x
  have HLEN := Lib.hid hlen
  have bd := he.bd
  rw [hk, if_pos rfl, hty] at HT
  rw [okS_eq, if_pos hk, hty] at hok
  simp only [Bool.and_eq_true, decide_eq_true_eq] at hok
  obtain ⟨okt, okn, oke, -, -, -⟩ := hok
  have hnm := nameOk_le okn
  have HWE := fun l v w h1 h2 h3 h4 => writeE1 (b := b) oke he.e ht l v w h1 h2 h3 h4
  obtain ⟨N, hN⟩ : ∃ q : ByteArray, q = ⟨#[108, 101, 116, 32]⟩ ++ x.name := ⟨_, rfl⟩
  have tn : ¬ 9223372036854775807 < 4 + x.name.size := by omega
  replace HT : txS x = N.data.toList ++ ((⟨#[32, 61, 32]⟩ : ByteArray).data.toList ++ (txB x.e ++ (⟨#[59]⟩ : ByteArray).data.toList)) := by
    rw [HT, if_neg (by decide), hN, baApp]; simp
  obtain ⟨T, hT⟩ : ∃ q, q = txS x := ⟨_, rfl⟩
  obtain ⟨te, hte⟩ : ∃ q, q = txB x.e := ⟨_, rfl⟩
  rw [← hT] at HT HLEN ⊢
  rw [← hte] at HT
  simp only [← hte] at HWE
  unfold E.v at HWE
  unfold S.v
  rw [hk, hty]
  clear hT hte okt hx hb hp ht he hlen bd okn oke hnm hk hty
  obtain ⟨xq0, hxq0⟩ : ∃ q, q = x.kind := ⟨_, rfl⟩
  obtain ⟨xq1, hxq1⟩ : ∃ q, q = x.name := ⟨_, rfl⟩
  obtain ⟨xq2, hxq2⟩ : ∃ q, q = x.typed := ⟨_, rfl⟩
  obtain ⟨xq3, hxq3⟩ : ∃ q, q = x.t.k := ⟨_, rfl⟩
  obtain ⟨xq4, hxq4⟩ : ∃ q, q = x.t.b := ⟨_, rfl⟩
  obtain ⟨xq5, hxq5⟩ : ∃ q, q = x.t.n := ⟨_, rfl⟩
  obtain ⟨xq6, hxq6⟩ : ∃ q, q = x.e.op := ⟨_, rfl⟩
  obtain ⟨xq7, hxq7⟩ : ∃ q, q = x.e.val := ⟨_, rfl⟩
  obtain ⟨xq8, hxq8⟩ : ∃ q, q = x.e.name := ⟨_, rfl⟩
  obtain ⟨xq9, hxq9⟩ : ∃ q, q = x.e.a := ⟨_, rfl⟩
  obtain ⟨xq10, hxq10⟩ : ∃ q, q = x.e.args.length := ⟨_, rfl⟩
  obtain ⟨xq11, hxq11⟩ : ∃ q, q = x.e.cap := ⟨_, rfl⟩
  obtain ⟨xq12, hxq12⟩ : ∃ q, q = x.lo := ⟨_, rfl⟩
  obtain ⟨xq13, hxq13⟩ : ∃ q, q = x.hi := ⟨_, rfl⟩
  obtain ⟨xq14, hxq14⟩ : ∃ q, q = x.a := ⟨_, rfl⟩
  obtain ⟨xq15, hxq15⟩ : ∃ q, q = x.body.length := ⟨_, rfl⟩
  obtain ⟨xq16, hxq16⟩ : ∃ q, q = x.cap := ⟨_, rfl⟩
  simp only [← hxq0, ← hxq1, ← hxq2, ← hxq3, ← hxq4, ← hxq5, ← hxq6, ← hxq7, ← hxq8, ← hxq9, ← hxq10, ← hxq11, ← hxq12, ← hxq13, ← hxq14, ← hxq15, ← hxq16] at HWE hN tn ⊢
  clear hxq0 hxq1 hxq2 hxq3 hxq4 hxq5 hxq6 hxq7 hxq8 hxq9 hxq10 hxq11 hxq12 hxq13 hxq14 hxq15 hxq16
  replace HT := Lib.hid HT
  replace HWE := Lib.hid HWE
  have HNN := Lib.hid hN
  clear hN
  go_enter Tryd.func49, Tryd.ntmps49
  go_wp2_with fail
  obtain ⟨wb, hwb⟩ : ∃ q, q = w.alloc (.cells #[.int .i64 1, .string xq1, .bool false, .int .i64 xq3, .int .i64 xq4, .int .i64 xq5, .int .i64 xq6, .int .u64 (xq7 : Int), .string xq8, .slice xq9 xq10 xq11, .int .i64 xq12, .int .i64 xq13, .slice xq14 xq15 xq16] 61) := ⟨_, rfl⟩
  have c0 : wb.cell? ⟨w.heap.size, 0, none⟩ = some (.int .i64 1) := by rw [hwb]; simp
  have C0 := Lib.hid c0
  have c1 : wb.cell? ⟨w.heap.size, 1, none⟩ = some (.string xq1) := by rw [hwb]; simp
  have C1 := Lib.hid c1
  have c2 : wb.cell? ⟨w.heap.size, 2, none⟩ = some (.bool false) := by rw [hwb]; simp
  have C2 := Lib.hid c2
  have c3 : wb.cell? ⟨w.heap.size, 3, none⟩ = some (.int .i64 xq3) := by rw [hwb]; simp
  have C3 := Lib.hid c3
  have c4 : wb.cell? ⟨w.heap.size, 4, none⟩ = some (.int .i64 xq4) := by rw [hwb]; simp
  have C4 := Lib.hid c4
  have c5 : wb.cell? ⟨w.heap.size, 5, none⟩ = some (.int .i64 xq5) := by rw [hwb]; simp
  have C5 := Lib.hid c5
  have c6 : wb.cell? ⟨w.heap.size, 6, none⟩ = some (.int .i64 xq6) := by rw [hwb]; simp
  have C6 := Lib.hid c6
  have c7 : wb.cell? ⟨w.heap.size, 7, none⟩ = some (.int .u64 (xq7 : Int)) := by rw [hwb]; simp
  have C7 := Lib.hid c7
  have c8 : wb.cell? ⟨w.heap.size, 8, none⟩ = some (.string xq8) := by rw [hwb]; simp
  have C8 := Lib.hid c8
  have c9 : wb.cell? ⟨w.heap.size, 9, none⟩ = some (.slice xq9 xq10 xq11) := by rw [hwb]; simp
  have C9 := Lib.hid c9
  have c10 : wb.cell? ⟨w.heap.size, 10, none⟩ = some (.int .i64 xq12) := by rw [hwb]; simp
  have C10 := Lib.hid c10
  have c11 : wb.cell? ⟨w.heap.size, 11, none⟩ = some (.int .i64 xq13) := by rw [hwb]; simp
  have C11 := Lib.hid c11
  have c12 : wb.cell? ⟨w.heap.size, 12, none⟩ = some (.slice xq14 xq15 xq16) := by rw [hwb]; simp
  have C12 := Lib.hid c12
  have HXB : Hid (Ext w wb) := Lib.hid (by rw [hwb]; exact (Ext.refl _).alloc _)
  have HX0 : Hid (Ext w0 wb) := Lib.hid (HX.out.trans HXB.out)
  have HA : Hid (Aft b v wb l v wb) := Lib.hid (Aft.ofExt (HBX.out.ext HXB.out) (Ext.refl _))
  have NB : Hid (w.heap.size ≠ b) := Lib.hid (by have := HBX.out.lt; omega)
  have NV : Hid (v.ownBlock ≠ some w.heap.size) := Lib.hid (fun q => by have := HBX.out.own q; omega)
  rw [← hwb]
  clear hwb
  rw [← HNN.out]
  refine (WriteString_c b _ _ N _ HA.out.bx (by have q := HLEN.out; rw [HT.out] at q; rw [lenS]; (try simp only [List.length_append] at q ⊢); omega)).mono ?_; rintro e1 wn ⟨rfl, vn, ha⟩
  have HA := Lib.hid (HA.out.trans ha)
  clear ha
  clear c0 c1 c2 c3 c4 c5 c6 c7 c8 c9 c10 c11 c12 tn
  have c2 := HA.out.cell C2.out NB.out NV.out
  go_wp2_with fail
  refine (WriteString_c b _ _ ⟨#[32, 61, 32]⟩ _ HA.out.bx (by have q := HLEN.out; rw [HT.out] at q; rw [lenS]; (try simp only [List.length_append] at q ⊢); omega)).mono ?_; rintro e1 wn ⟨rfl, vn, ha⟩
  have HA := Lib.hid (HA.out.trans ha)
  clear ha
  clear c2
  have c6 := HA.out.cell C6.out NB.out NV.out
  have c7 := HA.out.cell C7.out NB.out NV.out
  have c8 := HA.out.cell C8.out NB.out NV.out
  have c9 := HA.out.cell C9.out NB.out NV.out
  go_wp2_with fail
  refine (HWE.out _ _ _ (HA.out.ext HX0.out HP.out) HA.out.bx (HA.out.past HX0.out.size HP.out) (by have q := HLEN.out; rw [HT.out] at q; (try simp only [List.length_append] at q ⊢); omega)).mono ?_; rintro e1 wn ⟨rfl, vn, ha⟩
  have HA := Lib.hid (HA.out.trans ha)
  clear ha
  clear c6 c7 c8 c9
  go_wp2_with fail
  refine (WriteString_c b _ _ ⟨#[59]⟩ _ HA.out.bx (by have q := HLEN.out; rw [HT.out] at q; rw [lenS]; (try simp only [List.length_append] at q ⊢); omega)).mono ?_; rintro e1 wn ⟨rfl, vn, ha⟩
  have HA := Lib.hid (HA.out.trans ha)
  clear ha
  go_wp2_with fail
  first | go_end0 | ((try simp only [Exit.inBlock, Exit.then]); refine bodyPost_ret (results_none rfl _ _ _) rfl ?_)
  refine ⟨rfl, vn, Aft.start HBX.out HXB.out ?_⟩
  have q := HA.out
  (try simp only [List.append_assoc] at q)
  rw [HT.out]
  exact q
end Go.Proofs.YtcheigpejbmaoaaDoor
