/- The library's sort at uint64: slices.Sort. Turned by wip/gen/turnsort.py from the kit's worked walks at int. -/
import Derived.Test.YtndiaamoapidoaaSoA
import Derived.Test.YtndiaamoapidoaaSoA6
import Derived.Test.YtndiaamoapidoaaSoT
import Derived.Test.YtndiaamoapidoaaSo7
import Derived.Test.YtndiaamoapidoaaSo11
import Derived.Test.YtndiaamoapidoaaSoC
import Derived.Test.YtndiaamoapidoaaSoC4
import Derived.Test.YtndiaamoapidoaaSo13
import Derived.Sort.AssemblyPlain
namespace Go.Proofs.Ytndiaamoapidoaa
open Go.RowKit Go.Sort
theorem calleesU : CalleesU where
  ins := U.insertionSort_int
  brk := U.breakPatterns_int
  piv := U.choosePivot_int
  par := U.partialInsertionSort_int
  peq := U.partitionEqualOrdered_int
  prt := U.partitionOrdered_int
theorem plainU : Plain13 where
  swo := swo_ltInt
  ins := insertionSort_holds
  par := partialInsertionSort_holds
  prt := partition_holds _
  peq := partitionEqual_holds _
  pdq := pdq_sorts _
theorem pdqU : pdqWalkU := fun blk off cap a b limit d w hH hb hab hbd hsz hl hB =>
  U.pdqsort_int calleesU plainU (b - a + 1) blk off cap a b limit d w (by omega) hH hb hab hbd hsz hl hB
/-- slices.Sort at []uint64. -/
theorem U.slices_Sort (blk off cap : Nat) (zs : List Int) (w : World) (hH : Holds (Value.int .u64) w blk off zs.toArray) (hblk : blk < w.heap.size) (hsz : zs.length < 4611686018427387904) :
    Calls Try.prog 28 #[.slice (some ⟨blk, off, none⟩) zs.length cap] w fun e w' =>
      e = .returned (.tuple #[]) ∧ ∃ n os, w' = grow (putRow (Value.int .u64) (Sort.ahead w n) blk off (zs.mergeSort fun x y => decide (x ≤ y)).toArray) os := by
  have h := U.Sort_int pdqU blk off cap zs.toArray w hH hblk (by simpa using hsz)
  rw [show Sort.sort ltInt zs.toArray = (zs.mergeSort fun x y => decide (x ≤ y)).toArray from by rw [← sortInt zs]] at h
  simpa using h
theorem U.insertionSort_int_nil (p : Option Addr) (cap : Nat) (w : World) :
    Calls Try.prog 31 #[.slice p 0 cap, .int .i64 0, .int .i64 0] w fun e w' => e = .returned (.tuple #[]) ∧ w' = w := by
  go_enter Try.func31, Try.ntmps31
  go_wp2
  refine wp_loop_rounds 1 ?_
  rw [rounds_succ]
  go_wp2
  go_end0
  exact ⟨rfl, rfl⟩

set_option maxRecDepth 100000 in
theorem U.pdqsort_int_nil (p : Option Addr) (cap : Nat) (w : World) :
    Calls Try.prog 29 #[.slice p 0 cap, .int .i64 0, .int .i64 0, .int .i64 0] w fun e w' => e = .returned (.tuple #[]) ∧ w' = w := by
  go_enter Try.func29, Try.ntmps29
  go_wp2
  refine wp_loop_rounds 1 ?_
  rw [rounds_succ]
  go_wp2_with (first | (go_at_call 31; refine (U.insertionSort_int_nil p cap _).mono ?_; rintro e w' ⟨rfl, rfl⟩))
  refine bodyPost_ret (results_none rfl _ _ _) rfl ?_
  exact ⟨rfl, rfl⟩

set_option maxRecDepth 100000 in
theorem U.Sort_int_nil (p : Option Addr) (cap : Nat) (w : World) :
    Calls Try.prog 28 #[.slice p 0 cap] w fun e w' => e = .returned (.tuple #[]) ∧ w' = w := by
  have hLen : ∀ w, Calls Try.prog 30 #[.int .u64 0] w fun e w' => e = .returned (.int .i64 0) ∧ w' = w := fun w => U.bits_Len 0 w (by omega) (by omega)
  go_enter Try.func28, Try.ntmps28
  go_wp2_with (first
    | (go_at_call 30; refine (hLen _).mono ?_; rintro e w' ⟨rfl, rfl⟩)
    | (go_at_call 29; refine (U.pdqsort_int_nil p cap _).mono ?_; rintro e w' ⟨rfl, rfl⟩))
  go_end0
  exact ⟨rfl, rfl⟩

end Go.Proofs.Ytndiaamoapidoaa
