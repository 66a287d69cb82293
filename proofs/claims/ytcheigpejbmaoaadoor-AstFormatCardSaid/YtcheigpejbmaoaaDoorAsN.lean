/- Contracts: numbers in decimal: strconv.Itoa, FormatUint, the document's Digits. -/
import Derived.Test.YtcheigpejbmaoaaDoorAsW
namespace Go.Proofs.YtcheigpejbmaoaaDoor
open Go.RowKit Go.Sort
def Tab (w : World) : Prop := Lib.TabIs Tryd.prog w "internal/strconv.uint64pow10" .u64 Lib.pow10Tab
theorem Tab.ext {w w' : World} (h : Tab w) (hx : Ext w w') : Tab w' := by
  unfold Tab Lib.TabIs World.var? at *
  cases hg : Tryd.prog.globalNamed "internal/strconv.uint64pow10" with
  | none => simp [hg] at h
  | some g =>
    simp only [hg, Option.bind_some] at h ⊢
    have hlt : g < w.heap.size := by
      rcases Nat.lt_or_ge g w.heap.size with h' | h'
      · exact h'
      · rw [Array.getElem?_eq_none h'] at h; simp at h
    rw [Below.block hx g hlt]
    exact h
theorem ext_drewN (w : World) (k : Nat) : Ext w (w.drewN k) := ⟨rfl, rfl, rfl, Nat.le_refl _, fun _ _ => rfl⟩
theorem ext_grow (w : World) (k : Nat) (os : Array Obj) : Ext w (grow (w.drewN k) os) := by
  refine (ext_drewN w k).trans ⟨rfl, rfl, rfl, by simp [grow], fun j hj => ?_⟩
  show ((w.drewN k).heap ++ os)[j]? = _
  rw [Array.getElem?_append_left hj]
theorem Itoa_c (n : Int) (h0 : -9223372036854775808 ≤ n) (h1 : n ≤ 9223372036854775807) (w : World) (ht : Tab w) : Calls Tryd.prog 72 #[.int .i64 n] w fun e w' => e = .returned (.string ⟨(Lib.itoa n).toArray⟩) ∧ Ext w w' := by
  refine (Tryd.strconv_Itoa n h0 h1 w ht).mono ?_
  rintro e w' ⟨rfl, k, os, rfl⟩
  exact ⟨rfl, ext_grow w k os⟩
theorem holds_zero0 (w : World) (T : TypeId) (nd : Nat) (hs : nd ≤ 24) : Holds (fun (b : UInt8) => Value.int .u8 (b.toNat : Int)) (w.alloc (.cells Lib.zeros24 T)) w.heap.size 0 (Array.replicate nd (0 : UInt8)) := fun j hj => by
  have hj' : j < nd := by simpa using hj
  refine ⟨?_, World.frozen?_alloc_new _ _ _ _⟩
  rw [World.cell?_alloc_new, Lib.zeros24_at _ (by omega), getElem!_pos _ j hj]
  simp
theorem fin_pos0 (w : World) (o : Obj) (dk : Array UInt8) (k : Nat) : ∃ os, (putRow (fun (b : UInt8) => Value.int .u8 (b.toNat : Int)) (w.alloc o) w.heap.size 0 dk).drewN k = grow (w.drewN k) os := by
  rw [alloc_eq_grow]
  obtain ⟨os', _, e⟩ := putRow_grow_new (fun (b : UInt8) => Value.int .u8 (b.toNat : Int)) w #[o] w.heap.size 0 dk (Nat.le_refl _)
  exact ⟨os', by rw [e]; rfl⟩
set_option maxHeartbeats 6400000 in
set_option maxRecDepth 100000 in
theorem iFormatUint_c (u : Nat) (hu64 : u < 18446744073709551616) (w : World) (ht : Tab w) : Calls Tryd.prog 100 #[.int .u64 u, .int .i64 10] w fun e w' => e = .returned (.string ⟨(Lib.decDigits u).toArray⟩) ∧ Ext w w' := by
  by_cases hs : u < 100
  · have t1 : decide ((u : Int) < 100) = true := decide_eq_true (by omega)
    go_enter Tryd.func100, Tryd.ntmps100
    go_wp2_with fail
    refine (Tryd.internal_strconv_small u hs _).mono ?_; rintro e w' ⟨rfl, rfl⟩
    go_wp2_with fail
    go_ret
    exact ⟨rfl, Ext.refl _⟩
  · have hu1 : 1 ≤ u := by omega
    have t1 : decide ((u : Int) < 100) = false := decide_eq_false (by omega)
    have hnd20 : Lib.nDigits u ≤ 20 := by have := Lib.numDigits_eq u hu1 hu64; split at this <;> omega
    have hal : Tryd.prog.arrayLen 119 = 24 := by simp [Program.arrayLen, Tryd.underlying119]
    have hsl1 : ∀ W, (Instr.sliceAt 119 (.pointer (some ⟨w.heap.size, 0, none⟩)) none (some (.int .i64 (Lib.nDigits u : Int))) none).run Tryd.prog W = .ok (.slice (some ⟨w.heap.size, 0, none⟩) (Lib.nDigits u) 24) W := fun W => by
      rw [run_sliceAt_array_h W 119 ⟨w.heap.size, 0, none⟩ (by simp [Program.arrayLen, Program.elem, Tryd.underlying119]) .i64 (Lib.nDigits u : Int) (by omega) (by rw [hal]; omega)]
      go_simp
    have hH0 := holds_zero0 w 119 (Lib.nDigits u) (by omega)
    have hfmt := Tryd.internal_strconv_formatBase10 w.heap.size 0 24 u (Array.replicate (Lib.nDigits u) 0) (w.alloc (.cells Lib.zeros24 119)) hH0 (by rw [Array.size_replicate]; exact Lib.lt_pow_nDigits u) hu64 (by rw [Array.size_replicate]; omega)
    rw [Array.size_replicate] at hfmt
    have HH0 := Lib.hid hH0
    have HT := Lib.hid ht
    clear hH0 hal ht hs
    go_enter Tryd.func100, Tryd.ntmps100
    go_wp2_with fail
    refine (Tryd.internal_strconv_numDigits u hu1 hu64 _ (HT.out.ext ((Ext.refl _).alloc _))).mono ?_; rintro e w' ⟨rfl, rfl⟩
    go_wp2_with fail
    refine hfmt.mono ?_
    rintro e w' ⟨rfl, k, v', dk, rfl, hF⟩
    have hcv : (convert 76 9 (.slice (some ⟨w.heap.size, 0, none⟩) (Lib.nDigits u) 24)).run Tryd.prog ((putRow (fun (b : UInt8) => Value.int .u8 (b.toNat : Int)) (w.alloc (.cells Lib.zeros24 119)) w.heap.size 0 dk).drewN k) = .ok (.string ⟨(Lib.decDigits u).toArray⟩) ((putRow (fun (b : UInt8) => Value.int .u8 (b.toNat : Int)) (w.alloc (.cells Lib.zeros24 119)) w.heap.size 0 dk).drewN k) := by
      have h := run_convert_bytes_back (P := Tryd.prog) ((putRow (fun (b : UInt8) => Value.int .u8 (b.toNat : Int)) (w.alloc (.cells Lib.zeros24 119)) w.heap.size 0 dk).drewN k) 76 9 5 ⟨w.heap.size, 0, none⟩ 24 (Lib.decDigits u) Tryd.underlying76 Tryd.underlying5 Tryd.underlying9 (fun j hj => by
        rw [Lib.row_is_numeral hF j hj, Lib.add_plain, World.cell?_drewN]
        exact cell?_putRow (fun (b : UInt8) => Value.int .u8 (b.toNat : Int)) _ w.heap.size 0 _ dk HH0.out (by rw [hF.size, Array.size_replicate]) j (by rw [hF.size]; rw [Lib.decDigits_length] at hj; exact hj))
      rw [Lib.decDigits_length] at h
      exact h
    obtain ⟨os, eo⟩ := fin_pos0 w (.cells Lib.zeros24 119) dk k
    rw [eo] at hcv
    rw [eo]
    have XX : Hid (Ext w (grow (w.drewN k) os)) := Lib.hid (ext_grow w k os)
    clear hF eo hfmt
    go_wp2_with fail
    go_ret
    exact ⟨rfl, XX.out⟩
theorem FormatUint_c (u : Nat) (hu : u < 18446744073709551616) (w : World) (ht : Tab w) : Calls Tryd.prog 94 #[.int .u64 u, .int .i64 10] w fun e w' => e = .returned (.string ⟨(Lib.decDigits u).toArray⟩) ∧ Ext w w' := by
  have F := Lib.hid (iFormatUint_c u hu w ht)
  clear ht
  go_enter Tryd.func94, Tryd.ntmps94
  go_wp2_with fail
  refine F.out.mono ?_; rintro e w1 ⟨rfl, x1⟩
  go_wp2_with fail
  go_ret
  exact ⟨rfl, x1⟩
theorem digits_le (u : Nat) (h : u < 18446744073709551616) : (Lib.decDigits u).length ≤ 20 := by
  rw [Lib.decDigits_length]
  by_cases h1 : 1 ≤ u
  · have := Lib.numDigits_eq u h1 h
    split at this <;> omega
  · obtain rfl : u = 0 := by omega
    rw [Lib.nDigits_small (by omega)]; omega
set_option maxRecDepth 100000 in
set_option maxHeartbeats 1000000 in
theorem Digits_n : ∀ (m u : Nat), u < m → u < 18446744073709551616 → ∀ w, Calls Tryd.prog 46 #[.int .u64 u] w fun e w' => e = .returned (.string ⟨(Lib.decDigits u).toArray⟩) ∧ Ext w w' := by
  intro m
  induction m with
  | zero => intro u h; exact absurd h (by omega)
  | succ m ih =>
    intro u hu hu64 w
    have IH := Lib.hid ih
    clear ih
    obtain ⟨d, hd⟩ : ∃ d, d = u % 10 := ⟨_, rfl⟩
    obtain ⟨q, hq⟩ : ∃ q, q = u / 10 := ⟨_, rfl⟩
    have hd10 : d < 10 := by omega
    have td : (u : Int) % 10 = (d : Int) := by omega
    have tq : (u : Int) / 10 = (q : Int) := by omega
    have hcv : (convert 76 9 (.slice (some ⟨w.heap.size, 0, none⟩) 1 1)).run Tryd.prog (w.alloc (.cells #[.int .u8 (48 + (d : Int))] 5)) = .ok (.string ⟨[UInt8.ofNat (48 + d)].toArray⟩) (w.alloc (.cells #[.int .u8 (48 + (d : Int))] 5)) := by
      have h := run_convert_bytes_back (P := Tryd.prog) (w.alloc (.cells #[.int .u8 (48 + (d : Int))] 5)) 76 9 5 ⟨w.heap.size, 0, none⟩ 1 [UInt8.ofNat (48 + d)] Tryd.underlying76 Tryd.underlying5 Tryd.underlying9 (fun j hj => by
        have : j = 0 := by simpa using hj
        subst this
        rw [Lib.add_plain, World.cell?_alloc_new]
        have : (UInt8.ofNat (48 + d)).toNat = 48 + d := by simp; omega
        show some (Value.int .u8 (48 + (d : Int))) = some (.int .u8 (((UInt8.ofNat (48 + d)).toNat : Nat) : Int))
        rw [this]; push_cast; rfl)
      exact h
    have ED : Hid (Lib.decDigits u = if u < 10 then [UInt8.ofNat (48 + d)] else Lib.decDigits q ++ [UInt8.ofNat (48 + d)]) := Lib.hid (by
      rw [Lib.decDigits, hd, hq]
      by_cases h : u < 10
      · rw [dif_pos h, if_pos h, Nat.mod_eq_of_lt h]
      · rw [dif_neg h, if_neg h])
    by_cases h10 : u < 10
    · have t1 : decide ((u : Int) < 10) = true := decide_eq_true (by omega)
      rw [ED.out, if_pos h10]
      obtain ⟨x, hx⟩ : ∃ x : ByteArray, x = ⟨[UInt8.ofNat (48 + d)].toArray⟩ := ⟨_, rfl⟩
      rw [← hx] at hcv ⊢
      clear hx hd hq
      go_enter Tryd.func46, Tryd.ntmps46
      go_wp2_with fail
      go_ret
      exact ⟨rfl, (Ext.refl _).alloc _⟩
    · have t1 : decide ((u : Int) < 10) = false := decide_eq_false (by omega)
      rw [ED.out, if_neg h10]
      have IQ := Lib.hid (IH.out q (by omega) (by omega))
      obtain ⟨x, hx⟩ : ∃ x : ByteArray, x = ⟨[UInt8.ofNat (48 + d)].toArray⟩ := ⟨_, rfl⟩
      rw [← hx] at hcv
      have HX := Lib.hid hx
      have hxs : x.size = 1 := by rw [hx]; rfl
      have hql := digits_le q (by omega)
      have tl : ¬ 9223372036854775807 < (Lib.decDigits q).length + x.size := by omega
      clear hx hd hq hxs hql
      go_enter Tryd.func46, Tryd.ntmps46
      go_wp2_with fail
      refine (IQ.out _).mono ?_; rintro e w2 ⟨rfl, x2⟩
      go_wp2_with fail
      go_ret
      refine ⟨?_, x2.box⟩
      rw [HX.out]
      show Ending.returned (.string _) = _
      congr 2
theorem Digits_c (u : Nat) (h : u < 18446744073709551616) (w : World) : Calls Tryd.prog 46 #[.int .u64 u] w fun e w' => e = .returned (.string ⟨(Lib.decDigits u).toArray⟩) ∧ Ext w w' := Digits_n _ u (Nat.lt_succ_self _) h w
end Go.Proofs.YtcheigpejbmaoaaDoor
