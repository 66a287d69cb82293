/- writeOperator and writeExpr. Printed by gen/as8.py. -/
import Derived.Test.YtcheigpejbmaoaaDoorAs7
namespace Go.Proofs.YtcheigpejbmaoaaDoor
open Go.RowKit
set_option maxRecDepth 100000 in
set_option maxHeartbeats 4000000 in
theorem writeOperator_8 (e : E) (hop : e.op = 8) (hlen0 : e.args.length = 2) (hWA : ∀ (i : Nat) x, e.args[i]? = some x → WE x) : WBc 96 e := by
  intro w0 b l v w he ht hx hb hp hlen
  have WA := Lib.hid hWA
  have HX := Lib.hid hx
  have HBX := Lib.hid hb
  have HP := Lib.hid hp
  have HTB := Lib.hid ht
  have hL := he.l
  have HT := Lib.hid (txB_eq e)
  have HLEN := Lib.hid hlen
  unfold E.v
  obtain ⟨op, hop2⟩ : ∃ q, q = e.op := ⟨_, rfl⟩
  obtain ⟨ev, hev⟩ : ∃ q, q = e.val := ⟨_, rfl⟩
  obtain ⟨s, hs⟩ : ∃ q, q = e.name := ⟨_, rfl⟩
  obtain ⟨a, ha⟩ : ∃ q, q = e.a := ⟨_, rfl⟩
  obtain ⟨c, hc⟩ : ∃ q, q = e.cap := ⟨_, rfl⟩
  obtain ⟨A, hA⟩ : ∃ q, q = e.args := ⟨_, rfl⟩
  obtain ⟨n, hn⟩ : ∃ q, q = A.length := ⟨_, rfl⟩
  rw [← ha, ← hA] at hL
  rw [← hA] at WA
  rw [← hop2, ← hev, ← hs, ← hA] at HT
  rw [← hop2, ← hev, ← hs, ← ha, ← hc, ← hA, ← hn]
  have hn2 : A.length = 2 := by rw [hA]; exact hlen0
  have hnn : n = 2 := by rw [hn]; exact hn2
  rw [← hop2] at hop
  obtain ⟨T, hT⟩ : ∃ q, q = txB e := ⟨_, rfl⟩
  rw [← hT] at HT HLEN ⊢
  clear hop2 hev hs ha hc hA hn hT hx hb hp ht he hlen hWA hlen0
  obtain ⟨x0, hx0⟩ := getE (l := A) (i := 0) (by omega)
  obtain ⟨⟨ab, o, haa, k0, k1, k2, k3⟩, hin0⟩ := hL.at hx0
  subst haa
  have HK0 : Hid (∀ w', Ext w0 w' → w'.cell? ⟨ab, o, none⟩ = some (.int .i64 x0.op) ∧ w'.cell? ⟨ab, o + 1, none⟩ = some (.int .u64 (x0.val : Int)) ∧ w'.cell? ⟨ab, o + 2, none⟩ = some (.string x0.name) ∧ w'.cell? ⟨ab, o + 3, none⟩ = some (.slice x0.a x0.args.length x0.cap)) := Lib.hid (fun w' h => ⟨h.cell k0, h.cell k1, h.cell k2, h.cell k3⟩)
  clear k0 k1 k2 k3
  have HW0 := Lib.hid (fun l v w r h1 h2 h3 h4 => WA.out 0 x0 hx0 w0 b l v w r hin0 HTB.out h1 h2 h3 h4)
  have HO0 : Hid (oAt A 0 = x0.op) := Lib.hid (oAt_get hx0)
  have HU0 : Hid ((A.map txB).getD 0 [] = txB x0) := Lib.hid (tAt_get hx0)
  unfold E.v at HW0
  obtain ⟨t0, ht0⟩ : ∃ q, q = txB x0 := ⟨_, rfl⟩
  rw [← ht0] at HW0 HU0
  obtain ⟨x0o, hho⟩ : ∃ q, q = x0.op := ⟨_, rfl⟩
  rw [← hho] at HK0 HW0 HO0
  obtain ⟨x0v, hhv⟩ : ∃ q, q = x0.val := ⟨_, rfl⟩
  rw [← hhv] at HK0 HW0
  obtain ⟨x0n, hhn⟩ : ∃ q, q = x0.name := ⟨_, rfl⟩
  rw [← hhn] at HK0 HW0
  obtain ⟨x0a, hha⟩ : ∃ q, q = x0.a := ⟨_, rfl⟩
  rw [← hha] at HK0 HW0
  obtain ⟨x0l, hhl⟩ : ∃ q, q = x0.args.length := ⟨_, rfl⟩
  rw [← hhl] at HK0 HW0
  obtain ⟨x0c, hhc⟩ : ∃ q, q = x0.cap := ⟨_, rfl⟩
  rw [← hhc] at HK0 HW0
  clear hho hhv hhn hha hhl hhc hx0 hin0 ht0
  obtain ⟨x1, hx1⟩ := getE (l := A) (i := 1) (by omega)
  obtain ⟨⟨ab2, o2, haa, k0, k1, k2, k3⟩, hin1⟩ := hL.at hx1
  obtain ⟨rfl, rfl⟩ : ab = ab2 ∧ o = o2 := by simpa using haa
  clear haa
  have HK1 : Hid (∀ w', Ext w0 w' → w'.cell? ⟨ab, o + 4, none⟩ = some (.int .i64 x1.op) ∧ w'.cell? ⟨ab, o + 5, none⟩ = some (.int .u64 (x1.val : Int)) ∧ w'.cell? ⟨ab, o + 6, none⟩ = some (.string x1.name) ∧ w'.cell? ⟨ab, o + 7, none⟩ = some (.slice x1.a x1.args.length x1.cap)) := Lib.hid (fun w' h => ⟨h.cell k0, h.cell k1, h.cell k2, h.cell k3⟩)
  clear k0 k1 k2 k3
  have HW1 := Lib.hid (fun l v w r h1 h2 h3 h4 => WA.out 1 x1 hx1 w0 b l v w r hin1 HTB.out h1 h2 h3 h4)
  have HO1 : Hid (oAt A 1 = x1.op) := Lib.hid (oAt_get hx1)
  have HU1 : Hid ((A.map txB).getD 1 [] = txB x1) := Lib.hid (tAt_get hx1)
  unfold E.v at HW1
  obtain ⟨t1, ht1⟩ : ∃ q, q = txB x1 := ⟨_, rfl⟩
  rw [← ht1] at HW1 HU1
  obtain ⟨x1o, hho⟩ : ∃ q, q = x1.op := ⟨_, rfl⟩
  rw [← hho] at HK1 HW1 HO1
  obtain ⟨x1v, hhv⟩ : ∃ q, q = x1.val := ⟨_, rfl⟩
  rw [← hhv] at HK1 HW1
  obtain ⟨x1n, hhn⟩ : ∃ q, q = x1.name := ⟨_, rfl⟩
  rw [← hhn] at HK1 HW1
  obtain ⟨x1a, hha⟩ : ∃ q, q = x1.a := ⟨_, rfl⟩
  rw [← hha] at HK1 HW1
  obtain ⟨x1l, hhl⟩ : ∃ q, q = x1.args.length := ⟨_, rfl⟩
  rw [← hhl] at HK1 HW1
  obtain ⟨x1c, hhc⟩ : ∃ q, q = x1.cap := ⟨_, rfl⟩
  rw [← hhc] at HK1 HW1
  clear hho hhv hhn hha hhl hhc hx1 hin1 ht1
  clear hL
  subst hop
  subst hnn
  have HT : Hid (T = par x0o 8 t0 ++ ((⟨#[91]⟩ : ByteArray).data.toList ++ (par x1o 1 t1 ++ (⟨#[93]⟩ : ByteArray).data.toList))) := Lib.hid (by rw [HT.out, ← HO0.out, ← HO1.out, ← HU0.out, ← HU1.out]; rfl)
  obtain ⟨wb, hwb⟩ : ∃ q, q = w.alloc (.cells #[.int .i64 8, .int .u64 (ev : Int), .string s, .slice (some ⟨ab, o, none⟩) 2 c] 44) := ⟨_, rfl⟩
  have c0 : wb.cell? ⟨w.heap.size, 0, none⟩ = some (.int .i64 8) := by rw [hwb]; simp
  have C0 := Lib.hid c0
  have c1 : wb.cell? ⟨w.heap.size, 1, none⟩ = some (.int .u64 (ev : Int)) := by rw [hwb]; simp
  have C1 := Lib.hid c1
  have c2 : wb.cell? ⟨w.heap.size, 2, none⟩ = some (.string s) := by rw [hwb]; simp
  have C2 := Lib.hid c2
  have c3 : wb.cell? ⟨w.heap.size, 3, none⟩ = some (.slice (some ⟨ab, o, none⟩) 2 c) := by rw [hwb]; simp
  have C3 := Lib.hid c3
  have HXB : Hid (Ext w wb) := Lib.hid (by rw [hwb]; exact (Ext.refl _).alloc _)
  have HX0 : Hid (Ext w0 wb) := Lib.hid (HX.out.trans HXB.out)
  have HA : Hid (Aft b v wb l v wb) := Lib.hid (Aft.ofExt (HBX.out.ext HXB.out) (Ext.refl _))
  have NB : Hid (w.heap.size ≠ b) := Lib.hid (by have := HBX.out.lt; omega)
  have NV : Hid (v.ownBlock ≠ some w.heap.size) := Lib.hid (fun q => by have := HBX.out.own q; omega)
  have HWB := Lib.hid hwb
  clear c0 c1 c2 c3
  have HK0w := Lib.hid (fun w' (h : Ext w w') => HK0.out w' (HX.out.trans h))
  obtain ⟨k0, k1, k2, k3⟩ := HK0w.out _ (HXB.out)
  rw [hwb] at k0 k1 k2 k3
  clear hwb
  go_enter Tryd.func96, Tryd.ntmps96
  go_wp2_with fail
  rw [← HWB.out]
  clear k0 k1 k2 k3
  refine (HW0.out _ _ _ 8 (HA.out.ext HX0.out HP.out) HA.out.bx (HA.out.past HX0.out.size HP.out) (by have q := HLEN.out; rw [HT.out] at q; (try simp only [List.length_append] at q ⊢); omega)).mono ?_; rintro e1 wn ⟨rfl, vn, ha⟩
  have HA := Lib.hid (HA.out.trans ha)
  clear ha
  go_wp2_with fail
  refine (WriteString_c b _ _ ⟨#[91]⟩ _ HA.out.bx (by have q := HLEN.out; rw [HT.out] at q; rw [lenS]; (try simp only [List.length_append] at q ⊢); omega)).mono ?_; rintro e1 wn ⟨rfl, vn, ha⟩
  have HA := Lib.hid (HA.out.trans ha)
  clear ha
  have c0 := HA.out.cell C0.out NB.out NV.out
  have c3 := HA.out.cell C3.out NB.out NV.out
  obtain ⟨k0, k1, k2, k3⟩ := HK1.out _ (HA.out.ext HX0.out HP.out)
  go_wp2_with fail
  refine (HW1.out _ _ _ 1 (HA.out.ext HX0.out HP.out) HA.out.bx (HA.out.past HX0.out.size HP.out) (by have q := HLEN.out; rw [HT.out] at q; (try simp only [List.length_append] at q ⊢); omega)).mono ?_; rintro e1 wn ⟨rfl, vn, ha⟩
  have HA := Lib.hid (HA.out.trans ha)
  clear ha
  clear c0 c3 k0 k1 k2 k3
  go_wp2_with fail
  refine (WriteString_c b _ _ ⟨#[93]⟩ _ HA.out.bx (by have q := HLEN.out; rw [HT.out] at q; rw [lenS]; (try simp only [List.length_append] at q ⊢); omega)).mono ?_; rintro e1 wn ⟨rfl, vn, ha⟩
  have HA := Lib.hid (HA.out.trans ha)
  clear ha
  go_wp2_with fail
  go_end0
  refine ⟨rfl, vn, Aft.start HBX.out HXB.out ?_⟩
  have q := HA.out
  (try simp only [List.append_assoc] at q)
  rw [HT.out]
  exact q
set_option maxRecDepth 100000 in
set_option maxHeartbeats 4000000 in
theorem writeOperator_10 (e : E) (hop : e.op = 10) (hlen0 : e.args.length = 1) (hWA : ∀ (i : Nat) x, e.args[i]? = some x → WE x) : WBc 96 e := by
  intro w0 b l v w he ht hx hb hp hlen
  have WA := Lib.hid hWA
  have HX := Lib.hid hx
  have HBX := Lib.hid hb
  have HP := Lib.hid hp
  have HTB := Lib.hid ht
  have hL := he.l
  have HT := Lib.hid (txB_eq e)
  have HLEN := Lib.hid hlen
  unfold E.v
  obtain ⟨op, hop2⟩ : ∃ q, q = e.op := ⟨_, rfl⟩
  obtain ⟨ev, hev⟩ : ∃ q, q = e.val := ⟨_, rfl⟩
  obtain ⟨s, hs⟩ : ∃ q, q = e.name := ⟨_, rfl⟩
  obtain ⟨a, ha⟩ : ∃ q, q = e.a := ⟨_, rfl⟩
  obtain ⟨c, hc⟩ : ∃ q, q = e.cap := ⟨_, rfl⟩
  obtain ⟨A, hA⟩ : ∃ q, q = e.args := ⟨_, rfl⟩
  obtain ⟨n, hn⟩ : ∃ q, q = A.length := ⟨_, rfl⟩
  rw [← ha, ← hA] at hL
  rw [← hA] at WA
  rw [← hop2, ← hev, ← hs, ← hA] at HT
  rw [← hop2, ← hev, ← hs, ← ha, ← hc, ← hA, ← hn]
  have hn2 : A.length = 1 := by rw [hA]; exact hlen0
  have hnn : n = 1 := by rw [hn]; exact hn2
  rw [← hop2] at hop
  obtain ⟨T, hT⟩ : ∃ q, q = txB e := ⟨_, rfl⟩
  rw [← hT] at HT HLEN ⊢
  clear hop2 hev hs ha hc hA hn hT hx hb hp ht he hlen hWA hlen0
  obtain ⟨x0, hx0⟩ := getE (l := A) (i := 0) (by omega)
  obtain ⟨⟨ab, o, haa, k0, k1, k2, k3⟩, hin0⟩ := hL.at hx0
  subst haa
  have HK0 : Hid (∀ w', Ext w0 w' → w'.cell? ⟨ab, o, none⟩ = some (.int .i64 x0.op) ∧ w'.cell? ⟨ab, o + 1, none⟩ = some (.int .u64 (x0.val : Int)) ∧ w'.cell? ⟨ab, o + 2, none⟩ = some (.string x0.name) ∧ w'.cell? ⟨ab, o + 3, none⟩ = some (.slice x0.a x0.args.length x0.cap)) := Lib.hid (fun w' h => ⟨h.cell k0, h.cell k1, h.cell k2, h.cell k3⟩)
  clear k0 k1 k2 k3
  have HW0 := Lib.hid (fun l v w r h1 h2 h3 h4 => WA.out 0 x0 hx0 w0 b l v w r hin0 HTB.out h1 h2 h3 h4)
  have HO0 : Hid (oAt A 0 = x0.op) := Lib.hid (oAt_get hx0)
  have HU0 : Hid ((A.map txB).getD 0 [] = txB x0) := Lib.hid (tAt_get hx0)
  unfold E.v at HW0
  obtain ⟨t0, ht0⟩ : ∃ q, q = txB x0 := ⟨_, rfl⟩
  rw [← ht0] at HW0 HU0
  obtain ⟨x0o, hho⟩ : ∃ q, q = x0.op := ⟨_, rfl⟩
  rw [← hho] at HK0 HW0 HO0
  obtain ⟨x0v, hhv⟩ : ∃ q, q = x0.val := ⟨_, rfl⟩
  rw [← hhv] at HK0 HW0
  obtain ⟨x0n, hhn⟩ : ∃ q, q = x0.name := ⟨_, rfl⟩
  rw [← hhn] at HK0 HW0
  obtain ⟨x0a, hha⟩ : ∃ q, q = x0.a := ⟨_, rfl⟩
  rw [← hha] at HK0 HW0
  obtain ⟨x0l, hhl⟩ : ∃ q, q = x0.args.length := ⟨_, rfl⟩
  rw [← hhl] at HK0 HW0
  obtain ⟨x0c, hhc⟩ : ∃ q, q = x0.cap := ⟨_, rfl⟩
  rw [← hhc] at HK0 HW0
  clear hho hhv hhn hha hhl hhc hx0 hin0 ht0
  clear hL
  subst hop
  subst hnn
  have HT : Hid (T = (⟨#[110, 111, 116, 32]⟩ : ByteArray).data.toList ++ par x0o 7 t0) := Lib.hid (by rw [HT.out, ← HO0.out, ← HU0.out]; rfl)
  obtain ⟨wb, hwb⟩ : ∃ q, q = w.alloc (.cells #[.int .i64 10, .int .u64 (ev : Int), .string s, .slice (some ⟨ab, o, none⟩) 1 c] 44) := ⟨_, rfl⟩
  have c0 : wb.cell? ⟨w.heap.size, 0, none⟩ = some (.int .i64 10) := by rw [hwb]; simp
  have C0 := Lib.hid c0
  have c1 : wb.cell? ⟨w.heap.size, 1, none⟩ = some (.int .u64 (ev : Int)) := by rw [hwb]; simp
  have C1 := Lib.hid c1
  have c2 : wb.cell? ⟨w.heap.size, 2, none⟩ = some (.string s) := by rw [hwb]; simp
  have C2 := Lib.hid c2
  have c3 : wb.cell? ⟨w.heap.size, 3, none⟩ = some (.slice (some ⟨ab, o, none⟩) 1 c) := by rw [hwb]; simp
  have C3 := Lib.hid c3
  have HXB : Hid (Ext w wb) := Lib.hid (by rw [hwb]; exact (Ext.refl _).alloc _)
  have HX0 : Hid (Ext w0 wb) := Lib.hid (HX.out.trans HXB.out)
  have HA : Hid (Aft b v wb l v wb) := Lib.hid (Aft.ofExt (HBX.out.ext HXB.out) (Ext.refl _))
  have NB : Hid (w.heap.size ≠ b) := Lib.hid (by have := HBX.out.lt; omega)
  have NV : Hid (v.ownBlock ≠ some w.heap.size) := Lib.hid (fun q => by have := HBX.out.own q; omega)
  have HWB := Lib.hid hwb
  clear c0 c1 c2 c3
  clear hwb
  go_enter Tryd.func96, Tryd.ntmps96
  go_wp2_with fail
  rw [← HWB.out]
  refine (WriteString_c b _ _ ⟨#[110, 111, 116, 32]⟩ _ HA.out.bx (by have q := HLEN.out; rw [HT.out] at q; rw [lenS]; (try simp only [List.length_append] at q ⊢); omega)).mono ?_; rintro e1 wn ⟨rfl, vn, ha⟩
  have HA := Lib.hid (HA.out.trans ha)
  clear ha
  have c0 := HA.out.cell C0.out NB.out NV.out
  have c3 := HA.out.cell C3.out NB.out NV.out
  obtain ⟨k0, k1, k2, k3⟩ := HK0.out _ (HA.out.ext HX0.out HP.out)
  go_wp2_with fail
  refine (HW0.out _ _ _ 7 (HA.out.ext HX0.out HP.out) HA.out.bx (HA.out.past HX0.out.size HP.out) (by have q := HLEN.out; rw [HT.out] at q; (try simp only [List.length_append] at q ⊢); omega)).mono ?_; rintro e1 wn ⟨rfl, vn, ha⟩
  have HA := Lib.hid (HA.out.trans ha)
  clear ha
  clear c0 c3 k0 k1 k2 k3
  go_wp2_with fail
  go_end0
  refine ⟨rfl, vn, Aft.start HBX.out HXB.out ?_⟩
  have q := HA.out
  (try simp only [List.append_assoc] at q)
  rw [HT.out]
  exact q
set_option maxRecDepth 100000 in
set_option maxHeartbeats 4000000 in
theorem writeOperator_9 (e : E) (hop : e.op = 9) (hlen0 : e.args.length = 1) (hWA : ∀ (i : Nat) x, e.args[i]? = some x → WE x) : WBc 96 e := by
  intro w0 b l v w he ht hx hb hp hlen
  have WA := Lib.hid hWA
  have HX := Lib.hid hx
  have HBX := Lib.hid hb
  have HP := Lib.hid hp
  have HTB := Lib.hid ht
  have hL := he.l
  have HT := Lib.hid (txB_eq e)
  have HLEN := Lib.hid hlen
  unfold E.v
  obtain ⟨op, hop2⟩ : ∃ q, q = e.op := ⟨_, rfl⟩
  obtain ⟨ev, hev⟩ : ∃ q, q = e.val := ⟨_, rfl⟩
  obtain ⟨s, hs⟩ : ∃ q, q = e.name := ⟨_, rfl⟩
  obtain ⟨a, ha⟩ : ∃ q, q = e.a := ⟨_, rfl⟩
  obtain ⟨c, hc⟩ : ∃ q, q = e.cap := ⟨_, rfl⟩
  obtain ⟨A, hA⟩ : ∃ q, q = e.args := ⟨_, rfl⟩
  obtain ⟨n, hn⟩ : ∃ q, q = A.length := ⟨_, rfl⟩
  rw [← ha, ← hA] at hL
  rw [← hA] at WA
  rw [← hop2, ← hev, ← hs, ← hA] at HT
  rw [← hop2, ← hev, ← hs, ← ha, ← hc, ← hA, ← hn]
  have hn2 : A.length = 1 := by rw [hA]; exact hlen0
  have hnn : n = 1 := by rw [hn]; exact hn2
  rw [← hop2] at hop
  obtain ⟨T, hT⟩ : ∃ q, q = txB e := ⟨_, rfl⟩
  rw [← hT] at HT HLEN ⊢
  clear hop2 hev hs ha hc hA hn hT hx hb hp ht he hlen hWA hlen0
  obtain ⟨x0, hx0⟩ := getE (l := A) (i := 0) (by omega)
  obtain ⟨⟨ab, o, haa, k0, k1, k2, k3⟩, hin0⟩ := hL.at hx0
  subst haa
  have HK0 : Hid (∀ w', Ext w0 w' → w'.cell? ⟨ab, o, none⟩ = some (.int .i64 x0.op) ∧ w'.cell? ⟨ab, o + 1, none⟩ = some (.int .u64 (x0.val : Int)) ∧ w'.cell? ⟨ab, o + 2, none⟩ = some (.string x0.name) ∧ w'.cell? ⟨ab, o + 3, none⟩ = some (.slice x0.a x0.args.length x0.cap)) := Lib.hid (fun w' h => ⟨h.cell k0, h.cell k1, h.cell k2, h.cell k3⟩)
  clear k0 k1 k2 k3
  have HW0 := Lib.hid (fun l v w r h1 h2 h3 h4 => WA.out 0 x0 hx0 w0 b l v w r hin0 HTB.out h1 h2 h3 h4)
  have HO0 : Hid (oAt A 0 = x0.op) := Lib.hid (oAt_get hx0)
  have HU0 : Hid ((A.map txB).getD 0 [] = txB x0) := Lib.hid (tAt_get hx0)
  unfold E.v at HW0
  obtain ⟨t0, ht0⟩ : ∃ q, q = txB x0 := ⟨_, rfl⟩
  rw [← ht0] at HW0 HU0
  obtain ⟨x0o, hho⟩ : ∃ q, q = x0.op := ⟨_, rfl⟩
  rw [← hho] at HK0 HW0 HO0
  obtain ⟨x0v, hhv⟩ : ∃ q, q = x0.val := ⟨_, rfl⟩
  rw [← hhv] at HK0 HW0
  obtain ⟨x0n, hhn⟩ : ∃ q, q = x0.name := ⟨_, rfl⟩
  rw [← hhn] at HK0 HW0
  obtain ⟨x0a, hha⟩ : ∃ q, q = x0.a := ⟨_, rfl⟩
  rw [← hha] at HK0 HW0
  obtain ⟨x0l, hhl⟩ : ∃ q, q = x0.args.length := ⟨_, rfl⟩
  rw [← hhl] at HK0 HW0
  obtain ⟨x0c, hhc⟩ : ∃ q, q = x0.cap := ⟨_, rfl⟩
  rw [← hhc] at HK0 HW0
  clear hho hhv hhn hha hhl hhc hx0 hin0 ht0
  clear hL
  subst hop
  subst hnn
  by_cases h9 : x0o = 9
  · have HT : Hid (T = (⟨#[45]⟩ : ByteArray).data.toList ++ par x0o 8 t0) := Lib.hid (by rw [HT.out, ← HU0.out]; show _ ++ par (oAt A 0) (if oAt A 0 = 9 then 8 else 7) _ = _; rw [HO0.out, if_pos h9])
    have tx : (x0o == 9) = true := beq_iff_eq.2 h9
    clear h9
    obtain ⟨wb, hwb⟩ : ∃ q, q = w.alloc (.cells #[.int .i64 9, .int .u64 (ev : Int), .string s, .slice (some ⟨ab, o, none⟩) 1 c] 44) := ⟨_, rfl⟩
    have c0 : wb.cell? ⟨w.heap.size, 0, none⟩ = some (.int .i64 9) := by rw [hwb]; simp
    have C0 := Lib.hid c0
    have c1 : wb.cell? ⟨w.heap.size, 1, none⟩ = some (.int .u64 (ev : Int)) := by rw [hwb]; simp
    have C1 := Lib.hid c1
    have c2 : wb.cell? ⟨w.heap.size, 2, none⟩ = some (.string s) := by rw [hwb]; simp
    have C2 := Lib.hid c2
    have c3 : wb.cell? ⟨w.heap.size, 3, none⟩ = some (.slice (some ⟨ab, o, none⟩) 1 c) := by rw [hwb]; simp
    have C3 := Lib.hid c3
    have HXB : Hid (Ext w wb) := Lib.hid (by rw [hwb]; exact (Ext.refl _).alloc _)
    have HX0 : Hid (Ext w0 wb) := Lib.hid (HX.out.trans HXB.out)
    have HA : Hid (Aft b v wb l v wb) := Lib.hid (Aft.ofExt (HBX.out.ext HXB.out) (Ext.refl _))
    have NB : Hid (w.heap.size ≠ b) := Lib.hid (by have := HBX.out.lt; omega)
    have NV : Hid (v.ownBlock ≠ some w.heap.size) := Lib.hid (fun q => by have := HBX.out.own q; omega)
    have HWB := Lib.hid hwb
    clear c0 c1 c2 c3
    clear hwb
    go_enter Tryd.func96, Tryd.ntmps96
    go_wp2_with fail
    rw [← HWB.out]
    refine (WriteString_c b _ _ ⟨#[45]⟩ _ HA.out.bx (by have q := HLEN.out; rw [HT.out] at q; rw [lenS]; (try simp only [List.length_append] at q ⊢); omega)).mono ?_; rintro e1 wn ⟨rfl, vn, ha⟩
    have HA := Lib.hid (HA.out.trans ha)
    clear ha
    have c0 := HA.out.cell C0.out NB.out NV.out
    have c3 := HA.out.cell C3.out NB.out NV.out
    obtain ⟨k0, k1, k2, k3⟩ := HK0.out _ (HA.out.ext HX0.out HP.out)
    go_wp2_with fail
    refine (HW0.out _ _ _ 8 (HA.out.ext HX0.out HP.out) HA.out.bx (HA.out.past HX0.out.size HP.out) (by have q := HLEN.out; rw [HT.out] at q; (try simp only [List.length_append] at q ⊢); omega)).mono ?_; rintro e1 wn ⟨rfl, vn, ha⟩
    have HA := Lib.hid (HA.out.trans ha)
    clear ha
    clear c0 c3 k0 k1 k2 k3
    go_wp2_with fail
    go_end0
    refine ⟨rfl, vn, Aft.start HBX.out HXB.out ?_⟩
    have q := HA.out
    (try simp only [List.append_assoc] at q)
    rw [HT.out]
    exact q
  · have HT : Hid (T = (⟨#[45]⟩ : ByteArray).data.toList ++ par x0o 7 t0) := Lib.hid (by rw [HT.out, ← HU0.out]; show _ ++ par (oAt A 0) (if oAt A 0 = 9 then 8 else 7) _ = _; rw [HO0.out, if_neg h9])
    have tx : (x0o == 9) = false := beq_eq_false_iff_ne.2 h9
    clear h9
    obtain ⟨wb, hwb⟩ : ∃ q, q = w.alloc (.cells #[.int .i64 9, .int .u64 (ev : Int), .string s, .slice (some ⟨ab, o, none⟩) 1 c] 44) := ⟨_, rfl⟩
    have c0 : wb.cell? ⟨w.heap.size, 0, none⟩ = some (.int .i64 9) := by rw [hwb]; simp
    have C0 := Lib.hid c0
    have c1 : wb.cell? ⟨w.heap.size, 1, none⟩ = some (.int .u64 (ev : Int)) := by rw [hwb]; simp
    have C1 := Lib.hid c1
    have c2 : wb.cell? ⟨w.heap.size, 2, none⟩ = some (.string s) := by rw [hwb]; simp
    have C2 := Lib.hid c2
    have c3 : wb.cell? ⟨w.heap.size, 3, none⟩ = some (.slice (some ⟨ab, o, none⟩) 1 c) := by rw [hwb]; simp
    have C3 := Lib.hid c3
    have HXB : Hid (Ext w wb) := Lib.hid (by rw [hwb]; exact (Ext.refl _).alloc _)
    have HX0 : Hid (Ext w0 wb) := Lib.hid (HX.out.trans HXB.out)
    have HA : Hid (Aft b v wb l v wb) := Lib.hid (Aft.ofExt (HBX.out.ext HXB.out) (Ext.refl _))
    have NB : Hid (w.heap.size ≠ b) := Lib.hid (by have := HBX.out.lt; omega)
    have NV : Hid (v.ownBlock ≠ some w.heap.size) := Lib.hid (fun q => by have := HBX.out.own q; omega)
    have HWB := Lib.hid hwb
    clear c0 c1 c2 c3
    clear hwb
    go_enter Tryd.func96, Tryd.ntmps96
    go_wp2_with fail
    rw [← HWB.out]
    refine (WriteString_c b _ _ ⟨#[45]⟩ _ HA.out.bx (by have q := HLEN.out; rw [HT.out] at q; rw [lenS]; (try simp only [List.length_append] at q ⊢); omega)).mono ?_; rintro e1 wn ⟨rfl, vn, ha⟩
    have HA := Lib.hid (HA.out.trans ha)
    clear ha
    have c0 := HA.out.cell C0.out NB.out NV.out
    have c3 := HA.out.cell C3.out NB.out NV.out
    obtain ⟨k0, k1, k2, k3⟩ := HK0.out _ (HA.out.ext HX0.out HP.out)
    go_wp2_with fail
    refine (HW0.out _ _ _ 7 (HA.out.ext HX0.out HP.out) HA.out.bx (HA.out.past HX0.out.size HP.out) (by have q := HLEN.out; rw [HT.out] at q; (try simp only [List.length_append] at q ⊢); omega)).mono ?_; rintro e1 wn ⟨rfl, vn, ha⟩
    have HA := Lib.hid (HA.out.trans ha)
    clear ha
    clear c0 c3 k0 k1 k2 k3
    go_wp2_with fail
    go_end0
    refine ⟨rfl, vn, Aft.start HBX.out HXB.out ?_⟩
    have q := HA.out
    (try simp only [List.append_assoc] at q)
    rw [HT.out]
    exact q
set_option maxRecDepth 100000 in
set_option maxHeartbeats 4000000 in
theorem writeOperator_20 (e : E) (hop : e.op = 20) (hlen0 : e.args.length = 3) (hWA : ∀ (i : Nat) x, e.args[i]? = some x → WE x) : WBc 96 e := by
  intro w0 b l v w he ht hx hb hp hlen
  have WA := Lib.hid hWA
  have HX := Lib.hid hx
  have HBX := Lib.hid hb
  have HP := Lib.hid hp
  have HTB := Lib.hid ht
  have hL := he.l
  have HT := Lib.hid (txB_eq e)
  have HLEN := Lib.hid hlen
  unfold E.v
  obtain ⟨op, hop2⟩ : ∃ q, q = e.op := ⟨_, rfl⟩
  obtain ⟨ev, hev⟩ : ∃ q, q = e.val := ⟨_, rfl⟩
  obtain ⟨s, hs⟩ : ∃ q, q = e.name := ⟨_, rfl⟩
  obtain ⟨a, ha⟩ : ∃ q, q = e.a := ⟨_, rfl⟩
  obtain ⟨c, hc⟩ : ∃ q, q = e.cap := ⟨_, rfl⟩
  obtain ⟨A, hA⟩ : ∃ q, q = e.args := ⟨_, rfl⟩
  obtain ⟨n, hn⟩ : ∃ q, q = A.length := ⟨_, rfl⟩
  rw [← ha, ← hA] at hL
  rw [← hA] at WA
  rw [← hop2, ← hev, ← hs, ← hA] at HT
  rw [← hop2, ← hev, ← hs, ← ha, ← hc, ← hA, ← hn]
  have hn2 : A.length = 3 := by rw [hA]; exact hlen0
  have hnn : n = 3 := by rw [hn]; exact hn2
  rw [← hop2] at hop
  obtain ⟨T, hT⟩ : ∃ q, q = txB e := ⟨_, rfl⟩
  rw [← hT] at HT HLEN ⊢
  clear hop2 hev hs ha hc hA hn hT hx hb hp ht he hlen hWA hlen0
  obtain ⟨x0, hx0⟩ := getE (l := A) (i := 0) (by omega)
  obtain ⟨⟨ab, o, haa, k0, k1, k2, k3⟩, hin0⟩ := hL.at hx0
  subst haa
  have HK0 : Hid (∀ w', Ext w0 w' → w'.cell? ⟨ab, o, none⟩ = some (.int .i64 x0.op) ∧ w'.cell? ⟨ab, o + 1, none⟩ = some (.int .u64 (x0.val : Int)) ∧ w'.cell? ⟨ab, o + 2, none⟩ = some (.string x0.name) ∧ w'.cell? ⟨ab, o + 3, none⟩ = some (.slice x0.a x0.args.length x0.cap)) := Lib.hid (fun w' h => ⟨h.cell k0, h.cell k1, h.cell k2, h.cell k3⟩)
  clear k0 k1 k2 k3
  have HW0 := Lib.hid (fun l v w r h1 h2 h3 h4 => WA.out 0 x0 hx0 w0 b l v w r hin0 HTB.out h1 h2 h3 h4)
  have HO0 : Hid (oAt A 0 = x0.op) := Lib.hid (oAt_get hx0)
  have HU0 : Hid ((A.map txB).getD 0 [] = txB x0) := Lib.hid (tAt_get hx0)
  unfold E.v at HW0
  obtain ⟨t0, ht0⟩ : ∃ q, q = txB x0 := ⟨_, rfl⟩
  rw [← ht0] at HW0 HU0
  obtain ⟨x0o, hho⟩ : ∃ q, q = x0.op := ⟨_, rfl⟩
  rw [← hho] at HK0 HW0 HO0
  obtain ⟨x0v, hhv⟩ : ∃ q, q = x0.val := ⟨_, rfl⟩
  rw [← hhv] at HK0 HW0
  obtain ⟨x0n, hhn⟩ : ∃ q, q = x0.name := ⟨_, rfl⟩
  rw [← hhn] at HK0 HW0
  obtain ⟨x0a, hha⟩ : ∃ q, q = x0.a := ⟨_, rfl⟩
  rw [← hha] at HK0 HW0
  obtain ⟨x0l, hhl⟩ : ∃ q, q = x0.args.length := ⟨_, rfl⟩
  rw [← hhl] at HK0 HW0
  obtain ⟨x0c, hhc⟩ : ∃ q, q = x0.cap := ⟨_, rfl⟩
  rw [← hhc] at HK0 HW0
  clear hho hhv hhn hha hhl hhc hx0 hin0 ht0
  obtain ⟨x1, hx1⟩ := getE (l := A) (i := 1) (by omega)
  obtain ⟨⟨ab2, o2, haa, k0, k1, k2, k3⟩, hin1⟩ := hL.at hx1
  obtain ⟨rfl, rfl⟩ : ab = ab2 ∧ o = o2 := by simpa using haa
  clear haa
  have HK1 : Hid (∀ w', Ext w0 w' → w'.cell? ⟨ab, o + 4, none⟩ = some (.int .i64 x1.op) ∧ w'.cell? ⟨ab, o + 5, none⟩ = some (.int .u64 (x1.val : Int)) ∧ w'.cell? ⟨ab, o + 6, none⟩ = some (.string x1.name) ∧ w'.cell? ⟨ab, o + 7, none⟩ = some (.slice x1.a x1.args.length x1.cap)) := Lib.hid (fun w' h => ⟨h.cell k0, h.cell k1, h.cell k2, h.cell k3⟩)
  clear k0 k1 k2 k3
  have HW1 := Lib.hid (fun l v w r h1 h2 h3 h4 => WA.out 1 x1 hx1 w0 b l v w r hin1 HTB.out h1 h2 h3 h4)
  have HO1 : Hid (oAt A 1 = x1.op) := Lib.hid (oAt_get hx1)
  have HU1 : Hid ((A.map txB).getD 1 [] = txB x1) := Lib.hid (tAt_get hx1)
  unfold E.v at HW1
  obtain ⟨t1, ht1⟩ : ∃ q, q = txB x1 := ⟨_, rfl⟩
  rw [← ht1] at HW1 HU1
  obtain ⟨x1o, hho⟩ : ∃ q, q = x1.op := ⟨_, rfl⟩
  rw [← hho] at HK1 HW1 HO1
  obtain ⟨x1v, hhv⟩ : ∃ q, q = x1.val := ⟨_, rfl⟩
  rw [← hhv] at HK1 HW1
  obtain ⟨x1n, hhn⟩ : ∃ q, q = x1.name := ⟨_, rfl⟩
  rw [← hhn] at HK1 HW1
  obtain ⟨x1a, hha⟩ : ∃ q, q = x1.a := ⟨_, rfl⟩
  rw [← hha] at HK1 HW1
  obtain ⟨x1l, hhl⟩ : ∃ q, q = x1.args.length := ⟨_, rfl⟩
  rw [← hhl] at HK1 HW1
  obtain ⟨x1c, hhc⟩ : ∃ q, q = x1.cap := ⟨_, rfl⟩
  rw [← hhc] at HK1 HW1
  clear hho hhv hhn hha hhl hhc hx1 hin1 ht1
  obtain ⟨x2, hx2⟩ := getE (l := A) (i := 2) (by omega)
  obtain ⟨⟨ab2, o2, haa, k0, k1, k2, k3⟩, hin2⟩ := hL.at hx2
  obtain ⟨rfl, rfl⟩ : ab = ab2 ∧ o = o2 := by simpa using haa
  clear haa
  have HK2 : Hid (∀ w', Ext w0 w' → w'.cell? ⟨ab, o + 8, none⟩ = some (.int .i64 x2.op) ∧ w'.cell? ⟨ab, o + 9, none⟩ = some (.int .u64 (x2.val : Int)) ∧ w'.cell? ⟨ab, o + 10, none⟩ = some (.string x2.name) ∧ w'.cell? ⟨ab, o + 11, none⟩ = some (.slice x2.a x2.args.length x2.cap)) := Lib.hid (fun w' h => ⟨h.cell k0, h.cell k1, h.cell k2, h.cell k3⟩)
  clear k0 k1 k2 k3
  have HW2 := Lib.hid (fun l v w r h1 h2 h3 h4 => WA.out 2 x2 hx2 w0 b l v w r hin2 HTB.out h1 h2 h3 h4)
  have HO2 : Hid (oAt A 2 = x2.op) := Lib.hid (oAt_get hx2)
  have HU2 : Hid ((A.map txB).getD 2 [] = txB x2) := Lib.hid (tAt_get hx2)
  unfold E.v at HW2
  obtain ⟨t2, ht2⟩ : ∃ q, q = txB x2 := ⟨_, rfl⟩
  rw [← ht2] at HW2 HU2
  obtain ⟨x2o, hho⟩ : ∃ q, q = x2.op := ⟨_, rfl⟩
  rw [← hho] at HK2 HW2 HO2
  obtain ⟨x2v, hhv⟩ : ∃ q, q = x2.val := ⟨_, rfl⟩
  rw [← hhv] at HK2 HW2
  obtain ⟨x2n, hhn⟩ : ∃ q, q = x2.name := ⟨_, rfl⟩
  rw [← hhn] at HK2 HW2
  obtain ⟨x2a, hha⟩ : ∃ q, q = x2.a := ⟨_, rfl⟩
  rw [← hha] at HK2 HW2
  obtain ⟨x2l, hhl⟩ : ∃ q, q = x2.args.length := ⟨_, rfl⟩
  rw [← hhl] at HK2 HW2
  obtain ⟨x2c, hhc⟩ : ∃ q, q = x2.cap := ⟨_, rfl⟩
  rw [← hhc] at HK2 HW2
  clear hho hhv hhn hha hhl hhc hx2 hin2 ht2
  clear hL
  subst hop
  subst hnn
  have HT : Hid (T = par x0o 2 t0 ++ ((⟨#[32, 63, 32]⟩ : ByteArray).data.toList ++ (par x1o 1 t1 ++ ((⟨#[32, 58, 32]⟩ : ByteArray).data.toList ++ par x2o 1 t2)))) := Lib.hid (by rw [HT.out, ← HO0.out, ← HO1.out, ← HO2.out, ← HU0.out, ← HU1.out, ← HU2.out]; rfl)
  obtain ⟨wb, hwb⟩ : ∃ q, q = w.alloc (.cells #[.int .i64 20, .int .u64 (ev : Int), .string s, .slice (some ⟨ab, o, none⟩) 3 c] 44) := ⟨_, rfl⟩
  have c0 : wb.cell? ⟨w.heap.size, 0, none⟩ = some (.int .i64 20) := by rw [hwb]; simp
  have C0 := Lib.hid c0
  have c1 : wb.cell? ⟨w.heap.size, 1, none⟩ = some (.int .u64 (ev : Int)) := by rw [hwb]; simp
  have C1 := Lib.hid c1
  have c2 : wb.cell? ⟨w.heap.size, 2, none⟩ = some (.string s) := by rw [hwb]; simp
  have C2 := Lib.hid c2
  have c3 : wb.cell? ⟨w.heap.size, 3, none⟩ = some (.slice (some ⟨ab, o, none⟩) 3 c) := by rw [hwb]; simp
  have C3 := Lib.hid c3
  have HXB : Hid (Ext w wb) := Lib.hid (by rw [hwb]; exact (Ext.refl _).alloc _)
  have HX0 : Hid (Ext w0 wb) := Lib.hid (HX.out.trans HXB.out)
  have HA : Hid (Aft b v wb l v wb) := Lib.hid (Aft.ofExt (HBX.out.ext HXB.out) (Ext.refl _))
  have NB : Hid (w.heap.size ≠ b) := Lib.hid (by have := HBX.out.lt; omega)
  have NV : Hid (v.ownBlock ≠ some w.heap.size) := Lib.hid (fun q => by have := HBX.out.own q; omega)
  have HWB := Lib.hid hwb
  clear c0 c1 c2 c3
  have HK0w := Lib.hid (fun w' (h : Ext w w') => HK0.out w' (HX.out.trans h))
  obtain ⟨k0, k1, k2, k3⟩ := HK0w.out _ (HXB.out)
  rw [hwb] at k0 k1 k2 k3
  clear hwb
  go_enter Tryd.func96, Tryd.ntmps96
  go_wp2_with fail
  rw [← HWB.out]
  clear k0 k1 k2 k3
  refine (HW0.out _ _ _ 2 (HA.out.ext HX0.out HP.out) HA.out.bx (HA.out.past HX0.out.size HP.out) (by have q := HLEN.out; rw [HT.out] at q; (try simp only [List.length_append] at q ⊢); omega)).mono ?_; rintro e1 wn ⟨rfl, vn, ha⟩
  have HA := Lib.hid (HA.out.trans ha)
  clear ha
  go_wp2_with fail
  refine (WriteString_c b _ _ ⟨#[32, 63, 32]⟩ _ HA.out.bx (by have q := HLEN.out; rw [HT.out] at q; rw [lenS]; (try simp only [List.length_append] at q ⊢); omega)).mono ?_; rintro e1 wn ⟨rfl, vn, ha⟩
  have HA := Lib.hid (HA.out.trans ha)
  clear ha
  have c0 := HA.out.cell C0.out NB.out NV.out
  have c3 := HA.out.cell C3.out NB.out NV.out
  obtain ⟨k0, k1, k2, k3⟩ := HK1.out _ (HA.out.ext HX0.out HP.out)
  go_wp2_with fail
  refine (HW1.out _ _ _ 1 (HA.out.ext HX0.out HP.out) HA.out.bx (HA.out.past HX0.out.size HP.out) (by have q := HLEN.out; rw [HT.out] at q; (try simp only [List.length_append] at q ⊢); omega)).mono ?_; rintro e1 wn ⟨rfl, vn, ha⟩
  have HA := Lib.hid (HA.out.trans ha)
  clear ha
  clear c0 c3 k0 k1 k2 k3
  go_wp2_with fail
  refine (WriteString_c b _ _ ⟨#[32, 58, 32]⟩ _ HA.out.bx (by have q := HLEN.out; rw [HT.out] at q; rw [lenS]; (try simp only [List.length_append] at q ⊢); omega)).mono ?_; rintro e1 wn ⟨rfl, vn, ha⟩
  have HA := Lib.hid (HA.out.trans ha)
  clear ha
  have c0 := HA.out.cell C0.out NB.out NV.out
  have c3 := HA.out.cell C3.out NB.out NV.out
  obtain ⟨k0, k1, k2, k3⟩ := HK2.out _ (HA.out.ext HX0.out HP.out)
  go_wp2_with fail
  refine (HW2.out _ _ _ 1 (HA.out.ext HX0.out HP.out) HA.out.bx (HA.out.past HX0.out.size HP.out) (by have q := HLEN.out; rw [HT.out] at q; (try simp only [List.length_append] at q ⊢); omega)).mono ?_; rintro e1 wn ⟨rfl, vn, ha⟩
  have HA := Lib.hid (HA.out.trans ha)
  clear ha
  clear c0 c3 k0 k1 k2 k3
  go_wp2_with fail
  go_end0
  refine ⟨rfl, vn, Aft.start HBX.out HXB.out ?_⟩
  have q := HA.out
  (try simp only [List.append_assoc] at q)
  rw [HT.out]
  exact q
end Go.Proofs.YtcheigpejbmaoaaDoor
