/- writeBare. Printed by gen/as6.py. -/
import Derived.Test.YtcheigpejbmaoaaDoorAs6
namespace Go.Proofs.YtcheigpejbmaoaaDoor
open Go.RowKit
set_option maxRecDepth 100000 in
set_option maxHeartbeats 2000000 in
theorem writeBare_c (e : E) (hok : okSh e.op (decide (e.name.size = 0)) (decide (e.val = 0)) (nameOk e.name) e.args.length = true) (WL : WLc e.args) (WO : 8 ≤ e.op → WBc 96 e) : WBc 82 e := by
  intro w0 b l v w he ht hx hb hp hlen
  have HX := Lib.hid hx
  have HBX := Lib.hid hb
  have HP := Lib.hid hp
  have HTB := Lib.hid ht
  have HIN := Lib.hid he
  have bd := he.bd
  have hval := bd.val
  have hop1 := bd.op1
  have hnm := bd.name
  have HWO : Hid (8 ≤ e.op → ∀ (l : List UInt8) (v : Value) (w : World), Ext w0 w → BX b l v w → Past w0.heap.size b v → l.length + (txB e).length ≤ 140737488355328 → Calls Tryd.prog 96 #[.pointer (some ⟨b, 0, none⟩), e.v] w fun x w' => x = .returned (.tuple #[]) ∧ ∃ v', Aft b v w (l ++ txB e) v' w') := Lib.hid (fun h l v w h1 h2 h3 h4 => WO h w0 b l v w he ht h1 h2 h3 h4)
  have HWL : Hid (∀ (l : List UInt8) (v : Value) (w : World), Ext w0 w → BX b l v w → Past w0.heap.size b v → l.length + (comF true (e.args.map txB)).length ≤ 140737488355328 → Calls Tryd.prog 95 #[.pointer (some ⟨b, 0, none⟩), .slice e.a e.args.length e.cap] w fun x w' => x = .returned (.tuple #[]) ∧ ∃ v', Aft b v w (l ++ comF true (e.args.map txB)) v' w') := Lib.hid (fun l v w h1 h2 h3 h4 => WL w0 b l v w e.a e.cap he.l ht h1 h2 h3 h4)
  have HT := Lib.hid (txB_eq e)
  have HLEN := Lib.hid hlen
  unfold E.v at HWO ⊢
  obtain ⟨op, hop⟩ : ∃ q, q = e.op := ⟨_, rfl⟩
  obtain ⟨ev, hev⟩ : ∃ q, q = e.val := ⟨_, rfl⟩
  obtain ⟨s, hs⟩ : ∃ q, q = e.name := ⟨_, rfl⟩
  obtain ⟨a, ha⟩ : ∃ q, q = e.a := ⟨_, rfl⟩
  obtain ⟨c, hc⟩ : ∃ q, q = e.cap := ⟨_, rfl⟩
  obtain ⟨A, hA⟩ : ∃ q, q = e.args := ⟨_, rfl⟩
  obtain ⟨n, hn⟩ : ∃ q, q = A.length := ⟨_, rfl⟩
  rw [← hop, ← hev, ← hs, ← ha, ← hc, ← hA, ← hn] at HWO
  rw [← ha, ← hc, ← hA, ← hn] at HWL
  rw [← hop, ← hev, ← hs, ← hA] at HT
  rw [← hop, ← hev, ← hs, ← ha, ← hc, ← hA, ← hn]
  rw [← hop, ← hev, ← hs, ← hA, ← hn] at hok
  rw [← hev] at hval
  rw [← hop] at hop1
  rw [← hs] at hnm
  obtain ⟨T, hT⟩ : ∃ q, q = txB e := ⟨_, rfl⟩
  rw [← hT] at HWO HT HLEN ⊢
  obtain ⟨C, hC⟩ : ∃ q, q = comF true (A.map txB) := ⟨_, rfl⟩
  rw [← hC] at HWL
  have HC := Lib.hid hC
  clear hop hev hs ha hc hA hn hT hC hx hb hp ht he hlen WL WO bd
  by_cases h1 : op = 1
  · subst h1
    have HT : Hid (T = (⟨(Lib.decDigits ev).toArray⟩ : ByteArray).data.toList) := Lib.hid (HT.out.trans rfl)
    go_enter Tryd.func82, Tryd.ntmps82
    go_wp2_with fail
    obtain ⟨wb, hwb⟩ : ∃ q, q = w.alloc (.cells #[.int .i64 1, .int .u64 (ev : Int), .string s, .slice a n c] 44) := ⟨_, rfl⟩
    have c0 : wb.cell? ⟨w.heap.size, 0, none⟩ = some (.int .i64 1) := by rw [hwb]; simp
    have c1 : wb.cell? ⟨w.heap.size, 1, none⟩ = some (.int .u64 (ev : Int)) := by rw [hwb]; simp
    have c2 : wb.cell? ⟨w.heap.size, 2, none⟩ = some (.string s) := by rw [hwb]; simp
    have c3 : wb.cell? ⟨w.heap.size, 3, none⟩ = some (.slice a n c) := by rw [hwb]; simp
    have C0 := Lib.hid c0
    have C1 := Lib.hid c1
    have C2 := Lib.hid c2
    have C3 := Lib.hid c3
    have HXB : Hid (Ext w wb) := Lib.hid (by rw [hwb]; exact (Ext.refl _).alloc _)
    have HX0 : Hid (Ext w0 wb) := Lib.hid (HX.out.trans HXB.out)
    have HA : Hid (Aft b v wb l v wb) := Lib.hid (Aft.ofExt (HBX.out.ext HXB.out) (Ext.refl _))
    have NB : Hid (w.heap.size ≠ b) := Lib.hid (by have := HBX.out.lt; omega)
    have NV : Hid (v.ownBlock ≠ some w.heap.size) := Lib.hid (fun q => by have := HBX.out.own q; omega)
    rw [← hwb]
    clear hwb
    refine (FormatUint_c ev hval _ (HTB.out.ext (HA.out.ext HX0.out HP.out))).mono ?_; rintro e1 wn ⟨rfl, x2⟩
    have HA := Lib.hid (HA.out.grow x2)
    clear x2 c0 c1 c2 c3
    go_wp2_with fail
    refine (WriteString_c b _ _ ⟨(Lib.decDigits ev).toArray⟩ _ HA.out.bx (by have q := HLEN.out; rw [HT.out] at q; rw [lenS]; (try simp only [] at q ⊢); omega)).mono ?_; rintro e1 wn ⟨rfl, vn, ha⟩
    have HA := Lib.hid (HA.out.trans ha)
    clear ha
    go_wp2_with fail
    go_end0
    refine ⟨rfl, vn, Aft.start HBX.out HXB.out ?_⟩
    have q := HA.out
    (try simp only [List.append_assoc] at q)
    rw [HT.out]
    exact q
  have t1 : (op == 1) = false := beq_eq_false_iff_ne.2 h1
  by_cases h2 : op = 2
  · subst h2
    have HT : Hid (T = s.data.toList) := Lib.hid (HT.out.trans rfl)
    go_enter Tryd.func82, Tryd.ntmps82
    go_wp2_with fail
    obtain ⟨wb, hwb⟩ : ∃ q, q = w.alloc (.cells #[.int .i64 2, .int .u64 (ev : Int), .string s, .slice a n c] 44) := ⟨_, rfl⟩
    have c0 : wb.cell? ⟨w.heap.size, 0, none⟩ = some (.int .i64 2) := by rw [hwb]; simp
    have c1 : wb.cell? ⟨w.heap.size, 1, none⟩ = some (.int .u64 (ev : Int)) := by rw [hwb]; simp
    have c2 : wb.cell? ⟨w.heap.size, 2, none⟩ = some (.string s) := by rw [hwb]; simp
    have c3 : wb.cell? ⟨w.heap.size, 3, none⟩ = some (.slice a n c) := by rw [hwb]; simp
    have C0 := Lib.hid c0
    have C1 := Lib.hid c1
    have C2 := Lib.hid c2
    have C3 := Lib.hid c3
    have HXB : Hid (Ext w wb) := Lib.hid (by rw [hwb]; exact (Ext.refl _).alloc _)
    have HX0 : Hid (Ext w0 wb) := Lib.hid (HX.out.trans HXB.out)
    have HA : Hid (Aft b v wb l v wb) := Lib.hid (Aft.ofExt (HBX.out.ext HXB.out) (Ext.refl _))
    have NB : Hid (w.heap.size ≠ b) := Lib.hid (by have := HBX.out.lt; omega)
    have NV : Hid (v.ownBlock ≠ some w.heap.size) := Lib.hid (fun q => by have := HBX.out.own q; omega)
    rw [← hwb]
    clear hwb
    refine (WriteString_c b _ _ s _ HA.out.bx (by have q := HLEN.out; rw [HT.out] at q; rw [lenS]; (try simp only [List.length_append] at q ⊢); omega)).mono ?_; rintro e1 wn ⟨rfl, vn, ha⟩
    have HA := Lib.hid (HA.out.trans ha)
    clear ha
    go_wp2_with fail
    go_end0
    refine ⟨rfl, vn, Aft.start HBX.out HXB.out ?_⟩
    have q := HA.out
    (try simp only [List.append_assoc] at q)
    rw [HT.out]
    exact q
  have t2 : (op == 2) = false := beq_eq_false_iff_ne.2 h2
  by_cases h3 : op = 3
  · subst h3
    have HT : Hid (T = (⟨#[116, 114, 117, 101]⟩ : ByteArray).data.toList) := Lib.hid (HT.out.trans rfl)
    go_enter Tryd.func82, Tryd.ntmps82
    go_wp2_with fail
    obtain ⟨wb, hwb⟩ : ∃ q, q = w.alloc (.cells #[.int .i64 3, .int .u64 (ev : Int), .string s, .slice a n c] 44) := ⟨_, rfl⟩
    have c0 : wb.cell? ⟨w.heap.size, 0, none⟩ = some (.int .i64 3) := by rw [hwb]; simp
    have c1 : wb.cell? ⟨w.heap.size, 1, none⟩ = some (.int .u64 (ev : Int)) := by rw [hwb]; simp
    have c2 : wb.cell? ⟨w.heap.size, 2, none⟩ = some (.string s) := by rw [hwb]; simp
    have c3 : wb.cell? ⟨w.heap.size, 3, none⟩ = some (.slice a n c) := by rw [hwb]; simp
    have C0 := Lib.hid c0
    have C1 := Lib.hid c1
    have C2 := Lib.hid c2
    have C3 := Lib.hid c3
    have HXB : Hid (Ext w wb) := Lib.hid (by rw [hwb]; exact (Ext.refl _).alloc _)
    have HX0 : Hid (Ext w0 wb) := Lib.hid (HX.out.trans HXB.out)
    have HA : Hid (Aft b v wb l v wb) := Lib.hid (Aft.ofExt (HBX.out.ext HXB.out) (Ext.refl _))
    have NB : Hid (w.heap.size ≠ b) := Lib.hid (by have := HBX.out.lt; omega)
    have NV : Hid (v.ownBlock ≠ some w.heap.size) := Lib.hid (fun q => by have := HBX.out.own q; omega)
    rw [← hwb]
    clear hwb
    refine (WriteString_c b _ _ ⟨#[116, 114, 117, 101]⟩ _ HA.out.bx (by have q := HLEN.out; rw [HT.out] at q; rw [lenS]; (try simp only [] at q ⊢); omega)).mono ?_; rintro e1 wn ⟨rfl, vn, ha⟩
    have HA := Lib.hid (HA.out.trans ha)
    clear ha
    go_wp2_with fail
    go_end0
    refine ⟨rfl, vn, Aft.start HBX.out HXB.out ?_⟩
    have q := HA.out
    (try simp only [List.append_assoc] at q)
    rw [HT.out]
    exact q
  have t3 : (op == 3) = false := beq_eq_false_iff_ne.2 h3
  by_cases h4 : op = 4
  · subst h4
    have HT : Hid (T = (⟨#[102, 97, 108, 115, 101]⟩ : ByteArray).data.toList) := Lib.hid (HT.out.trans rfl)
    go_enter Tryd.func82, Tryd.ntmps82
    go_wp2_with fail
    obtain ⟨wb, hwb⟩ : ∃ q, q = w.alloc (.cells #[.int .i64 4, .int .u64 (ev : Int), .string s, .slice a n c] 44) := ⟨_, rfl⟩
    have c0 : wb.cell? ⟨w.heap.size, 0, none⟩ = some (.int .i64 4) := by rw [hwb]; simp
    have c1 : wb.cell? ⟨w.heap.size, 1, none⟩ = some (.int .u64 (ev : Int)) := by rw [hwb]; simp
    have c2 : wb.cell? ⟨w.heap.size, 2, none⟩ = some (.string s) := by rw [hwb]; simp
    have c3 : wb.cell? ⟨w.heap.size, 3, none⟩ = some (.slice a n c) := by rw [hwb]; simp
    have C0 := Lib.hid c0
    have C1 := Lib.hid c1
    have C2 := Lib.hid c2
    have C3 := Lib.hid c3
    have HXB : Hid (Ext w wb) := Lib.hid (by rw [hwb]; exact (Ext.refl _).alloc _)
    have HX0 : Hid (Ext w0 wb) := Lib.hid (HX.out.trans HXB.out)
    have HA : Hid (Aft b v wb l v wb) := Lib.hid (Aft.ofExt (HBX.out.ext HXB.out) (Ext.refl _))
    have NB : Hid (w.heap.size ≠ b) := Lib.hid (by have := HBX.out.lt; omega)
    have NV : Hid (v.ownBlock ≠ some w.heap.size) := Lib.hid (fun q => by have := HBX.out.own q; omega)
    rw [← hwb]
    clear hwb
    refine (WriteString_c b _ _ ⟨#[102, 97, 108, 115, 101]⟩ _ HA.out.bx (by have q := HLEN.out; rw [HT.out] at q; rw [lenS]; (try simp only [] at q ⊢); omega)).mono ?_; rintro e1 wn ⟨rfl, vn, ha⟩
    have HA := Lib.hid (HA.out.trans ha)
    clear ha
    go_wp2_with fail
    go_end0
    refine ⟨rfl, vn, Aft.start HBX.out HXB.out ?_⟩
    have q := HA.out
    (try simp only [List.append_assoc] at q)
    rw [HT.out]
    exact q
  have t4 : (op == 4) = false := beq_eq_false_iff_ne.2 h4
  by_cases h5 : op = 5
  · subst h5
    obtain ⟨N, hN⟩ : ∃ q : ByteArray, q = s ++ ⟨#[40]⟩ := ⟨_, rfl⟩
    have HNN := Lib.hid hN
    have HT : Hid (T = N.data.toList ++ (C ++ (⟨#[41]⟩ : ByteArray).data.toList)) := Lib.hid (by rw [HC.out, hN]; exact HT.out.trans rfl)
    have hNs : N.size = s.size + 1 := by rw [hN, ByteArray.size_append]; rfl
    have tl : ¬ 9223372036854775807 < s.size + 1 := by have q := HLEN.out; rw [HT.out] at q; simp only [List.length_append] at q; rw [← lenS] at q; omega
    clear hN hNs
    go_enter Tryd.func82, Tryd.ntmps82
    go_wp2_with fail
    obtain ⟨wb, hwb⟩ : ∃ q, q = w.alloc (.cells #[.int .i64 5, .int .u64 (ev : Int), .string s, .slice a n c] 44) := ⟨_, rfl⟩
    have c0 : wb.cell? ⟨w.heap.size, 0, none⟩ = some (.int .i64 5) := by rw [hwb]; simp
    have c1 : wb.cell? ⟨w.heap.size, 1, none⟩ = some (.int .u64 (ev : Int)) := by rw [hwb]; simp
    have c2 : wb.cell? ⟨w.heap.size, 2, none⟩ = some (.string s) := by rw [hwb]; simp
    have c3 : wb.cell? ⟨w.heap.size, 3, none⟩ = some (.slice a n c) := by rw [hwb]; simp
    have C0 := Lib.hid c0
    have C1 := Lib.hid c1
    have C2 := Lib.hid c2
    have C3 := Lib.hid c3
    have HXB : Hid (Ext w wb) := Lib.hid (by rw [hwb]; exact (Ext.refl _).alloc _)
    have HX0 : Hid (Ext w0 wb) := Lib.hid (HX.out.trans HXB.out)
    have HA : Hid (Aft b v wb l v wb) := Lib.hid (Aft.ofExt (HBX.out.ext HXB.out) (Ext.refl _))
    have NB : Hid (w.heap.size ≠ b) := Lib.hid (by have := HBX.out.lt; omega)
    have NV : Hid (v.ownBlock ≠ some w.heap.size) := Lib.hid (fun q => by have := HBX.out.own q; omega)
    rw [← hwb]
    clear hwb
    rw [← HNN.out]
    refine (WriteString_c b _ _ N _ HA.out.bx (by have q := HLEN.out; rw [HT.out] at q; rw [lenS]; (try simp only [List.length_append] at q ⊢); omega)).mono ?_; rintro e1 wn ⟨rfl, vn, ha⟩
    have HA := Lib.hid (HA.out.trans ha)
    clear ha
    clear c0 c1 c2 c3 tl
    have c3 := HA.out.cell C3.out NB.out NV.out
    go_wp2_with fail
    refine (HWL.out _ _ _ (HA.out.ext HX0.out HP.out) HA.out.bx (HA.out.past HX0.out.size HP.out) (by have q := HLEN.out; rw [HT.out] at q; simp only [List.length_append] at q ⊢; omega)).mono ?_; rintro e1 wn ⟨rfl, vn, ha⟩
    have HA := Lib.hid (HA.out.trans ha)
    clear ha
    clear c3
    go_wp2_with fail
    refine (WriteString_c b _ _ ⟨#[41]⟩ _ HA.out.bx (by have q := HLEN.out; rw [HT.out] at q; rw [lenS]; (try simp only [List.length_append] at q ⊢); omega)).mono ?_; rintro e1 wn ⟨rfl, vn, ha⟩
    have HA := Lib.hid (HA.out.trans ha)
    clear ha
    go_wp2_with fail
    go_end0
    refine ⟨rfl, vn, Aft.start HBX.out HXB.out ?_⟩
    have q := HA.out
    (try simp only [List.append_assoc] at q)
    rw [HT.out]
    exact q
  have t5 : (op == 5) = false := beq_eq_false_iff_ne.2 h5
  by_cases h6 : op = 6
  · subst h6
    obtain ⟨N, hN⟩ : ∃ q : ByteArray, q = (⟨#[104, 97, 115, 104, 40]⟩ : ByteArray) ++ ⟨(Lib.decDigits ev).toArray⟩ ++ ⟨#[59, 32]⟩ := ⟨_, rfl⟩
    have HNN := Lib.hid hN
    have HT : Hid (T = N.data.toList ++ (C ++ (⟨#[41]⟩ : ByteArray).data.toList)) := Lib.hid (by rw [HC.out, hN]; exact HT.out.trans rfl)
    clear hN
    have hdl := digits_le ev hval
    have tl1 : ¬ 9223372036854775807 < 5 + (Lib.decDigits ev).length := by omega
    have tl2 : ¬ 9223372036854775807 < 5 + (Lib.decDigits ev).length + 2 := by omega
    go_enter Tryd.func82, Tryd.ntmps82
    go_wp2_with fail
    obtain ⟨wb, hwb⟩ : ∃ q, q = w.alloc (.cells #[.int .i64 6, .int .u64 (ev : Int), .string s, .slice a n c] 44) := ⟨_, rfl⟩
    have c0 : wb.cell? ⟨w.heap.size, 0, none⟩ = some (.int .i64 6) := by rw [hwb]; simp
    have c1 : wb.cell? ⟨w.heap.size, 1, none⟩ = some (.int .u64 (ev : Int)) := by rw [hwb]; simp
    have c2 : wb.cell? ⟨w.heap.size, 2, none⟩ = some (.string s) := by rw [hwb]; simp
    have c3 : wb.cell? ⟨w.heap.size, 3, none⟩ = some (.slice a n c) := by rw [hwb]; simp
    have C0 := Lib.hid c0
    have C1 := Lib.hid c1
    have C2 := Lib.hid c2
    have C3 := Lib.hid c3
    have HXB : Hid (Ext w wb) := Lib.hid (by rw [hwb]; exact (Ext.refl _).alloc _)
    have HX0 : Hid (Ext w0 wb) := Lib.hid (HX.out.trans HXB.out)
    have HA : Hid (Aft b v wb l v wb) := Lib.hid (Aft.ofExt (HBX.out.ext HXB.out) (Ext.refl _))
    have NB : Hid (w.heap.size ≠ b) := Lib.hid (by have := HBX.out.lt; omega)
    have NV : Hid (v.ownBlock ≠ some w.heap.size) := Lib.hid (fun q => by have := HBX.out.own q; omega)
    rw [← hwb]
    clear hwb
    refine (FormatUint_c ev hval _ (HTB.out.ext (HA.out.ext HX0.out HP.out))).mono ?_; rintro e1 wn ⟨rfl, x2⟩
    have HA := Lib.hid (HA.out.grow x2)
    clear x2 c0 c1 c2 c3
    go_wp2_with fail
    rw [← HNN.out]
    refine (WriteString_c b _ _ N _ HA.out.bx (by have q := HLEN.out; rw [HT.out] at q; rw [lenS]; (try simp only [List.length_append] at q ⊢); omega)).mono ?_; rintro e1 wn ⟨rfl, vn, ha⟩
    have HA := Lib.hid (HA.out.trans ha)
    clear ha
    clear tl1 tl2
    have c3 := HA.out.cell C3.out NB.out NV.out
    go_wp2_with fail
    refine (HWL.out _ _ _ (HA.out.ext HX0.out HP.out) HA.out.bx (HA.out.past HX0.out.size HP.out) (by have q := HLEN.out; rw [HT.out] at q; simp only [List.length_append] at q ⊢; omega)).mono ?_; rintro e1 wn ⟨rfl, vn, ha⟩
    have HA := Lib.hid (HA.out.trans ha)
    clear ha
    clear c3
    go_wp2_with fail
    refine (WriteString_c b _ _ ⟨#[41]⟩ _ HA.out.bx (by have q := HLEN.out; rw [HT.out] at q; rw [lenS]; (try simp only [List.length_append] at q ⊢); omega)).mono ?_; rintro e1 wn ⟨rfl, vn, ha⟩
    have HA := Lib.hid (HA.out.trans ha)
    clear ha
    go_wp2_with fail
    go_end0
    refine ⟨rfl, vn, Aft.start HBX.out HXB.out ?_⟩
    have q := HA.out
    (try simp only [List.append_assoc] at q)
    rw [HT.out]
    exact q
  have t6 : (op == 6) = false := beq_eq_false_iff_ne.2 h6
  by_cases h7 : op = 7
  · subst h7
    have HT : Hid (T = (⟨#[91]⟩ : ByteArray).data.toList ++ (C ++ (⟨#[93]⟩ : ByteArray).data.toList)) := Lib.hid (by rw [HC.out]; exact HT.out.trans rfl)
    go_enter Tryd.func82, Tryd.ntmps82
    go_wp2_with fail
    obtain ⟨wb, hwb⟩ : ∃ q, q = w.alloc (.cells #[.int .i64 7, .int .u64 (ev : Int), .string s, .slice a n c] 44) := ⟨_, rfl⟩
    have c0 : wb.cell? ⟨w.heap.size, 0, none⟩ = some (.int .i64 7) := by rw [hwb]; simp
    have c1 : wb.cell? ⟨w.heap.size, 1, none⟩ = some (.int .u64 (ev : Int)) := by rw [hwb]; simp
    have c2 : wb.cell? ⟨w.heap.size, 2, none⟩ = some (.string s) := by rw [hwb]; simp
    have c3 : wb.cell? ⟨w.heap.size, 3, none⟩ = some (.slice a n c) := by rw [hwb]; simp
    have C0 := Lib.hid c0
    have C1 := Lib.hid c1
    have C2 := Lib.hid c2
    have C3 := Lib.hid c3
    have HXB : Hid (Ext w wb) := Lib.hid (by rw [hwb]; exact (Ext.refl _).alloc _)
    have HX0 : Hid (Ext w0 wb) := Lib.hid (HX.out.trans HXB.out)
    have HA : Hid (Aft b v wb l v wb) := Lib.hid (Aft.ofExt (HBX.out.ext HXB.out) (Ext.refl _))
    have NB : Hid (w.heap.size ≠ b) := Lib.hid (by have := HBX.out.lt; omega)
    have NV : Hid (v.ownBlock ≠ some w.heap.size) := Lib.hid (fun q => by have := HBX.out.own q; omega)
    rw [← hwb]
    clear hwb
    refine (WriteString_c b _ _ ⟨#[91]⟩ _ HA.out.bx (by have q := HLEN.out; rw [HT.out] at q; rw [lenS]; (try simp only [List.length_append] at q ⊢); omega)).mono ?_; rintro e1 wn ⟨rfl, vn, ha⟩
    have HA := Lib.hid (HA.out.trans ha)
    clear ha
    clear c0 c1 c2 c3
    have c3 := HA.out.cell C3.out NB.out NV.out
    go_wp2_with fail
    refine (HWL.out _ _ _ (HA.out.ext HX0.out HP.out) HA.out.bx (HA.out.past HX0.out.size HP.out) (by have q := HLEN.out; rw [HT.out] at q; simp only [List.length_append] at q ⊢; omega)).mono ?_; rintro e1 wn ⟨rfl, vn, ha⟩
    have HA := Lib.hid (HA.out.trans ha)
    clear ha
    clear c3
    go_wp2_with fail
    refine (WriteString_c b _ _ ⟨#[93]⟩ _ HA.out.bx (by have q := HLEN.out; rw [HT.out] at q; rw [lenS]; (try simp only [List.length_append] at q ⊢); omega)).mono ?_; rintro e1 wn ⟨rfl, vn, ha⟩
    have HA := Lib.hid (HA.out.trans ha)
    clear ha
    go_wp2_with fail
    go_end0
    refine ⟨rfl, vn, Aft.start HBX.out HXB.out ?_⟩
    have q := HA.out
    (try simp only [List.append_assoc] at q)
    rw [HT.out]
    exact q
  have t7 : (op == 7) = false := beq_eq_false_iff_ne.2 h7
  have h8 : 8 ≤ op := by
    unfold okSh at hok
    simp only [h1, h2, h3, h4, h5, h6, h7, if_false, or_self] at hok
    by_cases q : op = 9 ∨ op = 10
    · omega
    · rw [if_neg q] at hok
      by_cases q2 : op = 20
      · omega
      · rw [if_neg q2] at hok
        by_cases q3 : op = 8 ∨ 11 ≤ op ∧ op ≤ 19
        · omega
        · rw [if_neg q3] at hok; cases hok
  have HW8 := Lib.hid (HWO.out h8)
  clear h8 h1 h2 h3 h4 h5 h6 h7 hok
  go_enter Tryd.func82, Tryd.ntmps82
  go_wp2_with fail
  obtain ⟨wb, hwb⟩ : ∃ q, q = w.alloc (.cells #[.int .i64 op, .int .u64 (ev : Int), .string s, .slice a n c] 44) := ⟨_, rfl⟩
  have c0 : wb.cell? ⟨w.heap.size, 0, none⟩ = some (.int .i64 op) := by rw [hwb]; simp
  have c1 : wb.cell? ⟨w.heap.size, 1, none⟩ = some (.int .u64 (ev : Int)) := by rw [hwb]; simp
  have c2 : wb.cell? ⟨w.heap.size, 2, none⟩ = some (.string s) := by rw [hwb]; simp
  have c3 : wb.cell? ⟨w.heap.size, 3, none⟩ = some (.slice a n c) := by rw [hwb]; simp
  have C0 := Lib.hid c0
  have C1 := Lib.hid c1
  have C2 := Lib.hid c2
  have C3 := Lib.hid c3
  have HXB : Hid (Ext w wb) := Lib.hid (by rw [hwb]; exact (Ext.refl _).alloc _)
  have HX0 : Hid (Ext w0 wb) := Lib.hid (HX.out.trans HXB.out)
  have HA : Hid (Aft b v wb l v wb) := Lib.hid (Aft.ofExt (HBX.out.ext HXB.out) (Ext.refl _))
  have NB : Hid (w.heap.size ≠ b) := Lib.hid (by have := HBX.out.lt; omega)
  have NV : Hid (v.ownBlock ≠ some w.heap.size) := Lib.hid (fun q => by have := HBX.out.own q; omega)
  rw [← hwb]
  clear hwb
  refine (HW8.out _ _ _ HX0.out HA.out.bx HP.out HLEN.out).mono ?_; rintro e1 wn ⟨rfl, vn, ha⟩
  have HA := Lib.hid (HA.out.trans ha)
  clear ha c0 c1 c2 c3
  go_wp2_with fail
  go_end0
  exact ⟨rfl, vn, Aft.start HBX.out HXB.out HA.out⟩
end Go.Proofs.YtcheigpejbmaoaaDoor
