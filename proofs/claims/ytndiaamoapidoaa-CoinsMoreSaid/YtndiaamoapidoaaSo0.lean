/- The library's sort at uint64: comparison. Turned by wip/gen/turnsort.py from the kit's worked walks at int. -/
import Derived.Test.YtndiaamoapidoaaProg
import Derived.Lib.Walk
import Derived.Sort.Row
import Derived.Lib.Strings
namespace Go.Proofs.Ytndiaamoapidoaa
set_option maxHeartbeats 1000000 in
theorem U.cmp_isNaN_int (x : Int) (w : World) : Calls Try.prog 47 #[.int .u64 x] w fun e w' => e = .returned (.bool false) ∧ w' = w := by
  go_enter Try.func47, Try.ntmps47
  go_wp2
  go_ret
  exact ⟨by simp, rfl⟩

set_option maxHeartbeats 1000000 in
theorem U.cmp_Less_int (x y : Int) (w : World) : Calls Try.prog 37 #[.int .u64 x, .int .u64 y] w fun e w' => e = .returned (.bool (Sort.ltInt x y)) ∧ w' = w := by
  go_enter Try.func37, Try.ntmps37
  go_wp2_with (go_at_call 47; refine (U.cmp_isNaN_int _ _).mono ?_; rintro e w' ⟨rfl, rfl⟩)
  go_ret
  exact ⟨rfl, rfl⟩

abbrev encU : Int → Value := fun x => Value.int .u64 x
end Go.Proofs.Ytndiaamoapidoaa
