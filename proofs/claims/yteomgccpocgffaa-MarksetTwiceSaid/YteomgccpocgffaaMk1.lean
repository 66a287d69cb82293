/- A set of numbers kept in a map[uint64]bool. -/
import Derived.Test.YteomgccpocgffaaBut
import Derived.Maps.RangeWalk
import Derived.Maps.OwnSet
namespace Go.Proofs.Yteomgccpocgffaa
open Go.RowKit Go.Maps

theorem law64 : Keyed Try.prog 23 := int_keyed Try.underlying23
theorem zeroB (w : World) : (zeroValue 4).run Try.prog w = .ok (.bool false) w := by kernel_rfl
/-- A number as a key. -/
def kl (x : Nat) : Lit := .int .u64 (x : Int)
theorem kl_inj {x y : Nat} (h : kl x = kl y) : x = y := by
  unfold kl at h; injection h with _ h; omega
theorem kl_key (x : Nat) : WideAt.IsKeyLit (kl x) := trivial
theorem kl_wf {x : Nat} (h : x < 18446744073709551616) : (Lit.int .u64 (x : Int)).wf = true := WalkArith.wf_u64 (by omega)
theorem kl_of {x : Nat} (h : x < 18446744073709551616) : keyOf Try.prog 23 (.int .u64 (x : Int)) = some (kl x) := keyOf_int_mk Try.underlying23 (kl_wf h)
theorem sameKl (x y : Nat) : (kl x).sameKey (kl y) = decide (x = y) := by
  by_cases h : x = y
  · subst h; rw [WideAt.sameKey_self (kl_key x)]; simp
  · rw [Maps.sameKey_ne (fun e => h (kl_inj e))]; simp [h]
/-- The map, as data, holds exactly the numbers of m, each with true. -/
structure SetD (D : DataW Unit) (m : List Nat) : Prop where
  has : ∀ x : Nat, Maps.has D (kl x) = decide (x ∈ m)
  at_ : ∀ (x : Nat) (z : DataW Unit), x ∈ m → D.atKey (kl x) z = .lit (.bool true)
  size : Maps.size D = m.length
  lt : ∀ x ∈ m, x < 18446744073709551616
def MapS (w : World) (b : Nat) (m : List Nat) : Prop := ∃ D : DataW Unit, w.ownsMap Try.prog 23 (plainElem Try.prog 4) b m.length D ∧ SetD D m
theorem tight {w : World} {b n : Nat} {D : DataW Unit} (h : w.ownsMap Try.prog 23 (plainElem Try.prog 4) b n D) : w.ownsMap Try.prog 23 (plainElem Try.prog 4) b (Maps.size D) D := by
  obtain ⟨es, clock, hb, F, hs, rfl⟩ := h
  exact ⟨es, clock, hb, F, by simp [Maps.size, length_sorted], rfl⟩
theorem MapS.mk {w : World} {b n : Nat} {D : DataW Unit} {m : List Nat} (h : w.ownsMap Try.prog 23 (plainElem Try.prog 4) b n D) (hs : SetD D m) : MapS w b m :=
  ⟨D, by have := tight h; rw [hs.size] at this; exact this, hs⟩
section
variable {w w' : World} {b : Nat} {m : List Nat}
theorem MapS.lt (h : MapS w b m) : b < w.heap.size := by obtain ⟨D, h, _⟩ := h; exact h.lt
theorem MapS.bd (h : MapS w b m) : ∀ x ∈ m, x < 18446744073709551616 := by obtain ⟨D, _, h⟩ := h; exact h.lt
theorem MapS.ext (h : MapS w b m) (hx : Ext w w') : MapS w' b m := by
  obtain ⟨D, ⟨es, clock, hb, r⟩, hs⟩ := h
  exact ⟨D, ⟨es, clock, (Below.block hx b (Array.getElem?_eq_some_iff.1 hb).1).trans hb, r⟩, hs⟩
theorem MapS.but {g : Nat} (h : MapS w b m) (hx : But g w w') (hne : b ≠ g) : MapS w' b m := by
  obtain ⟨D, ⟨es, clock, hb, r⟩, hs⟩ := h
  exact ⟨D, ⟨es, clock, (hx.block b (Array.getElem?_eq_some_iff.1 hb).1 hne).trans hb, r⟩, hs⟩
theorem MapS.made (w : World) : MapS (w.alloc (.map #[] 0)) w.heap.size [] :=
  ⟨.map [], World.ownsMap_made w _ _ _, ⟨fun x => by simp [Maps.has], fun x z h => by simp at h, rfl, fun x h => by simp at h⟩⟩
theorem MapS.perm {m' : List Nat} (h : MapS w b m) (hp : m.Perm m') : MapS w b m' := by
  obtain ⟨D, ho, hs⟩ := h
  exact .mk ho ⟨fun x => by rw [hs.has]; exact decide_eq_decide.2 hp.mem_iff, fun x z hx => hs.at_ x z (hp.mem_iff.2 hx), by rw [hs.size, hp.length_eq], fun x hx => hs.lt x (hp.mem_iff.2 hx)⟩
theorem plainElem_bool_inv {v : Value} {z : DataW Unit × List MemPlace} (h : plainElem Try.prog 4 v = some z) : ∃ a, v = .bool a ∧ z = (.lit (.bool a), []) := by
  unfold plainElem at h
  rw [Try.underlying4] at h
  cases v <;> simp at h
  exact ⟨_, rfl, h.symm⟩
/-- m[x]. -/
theorem MapS.look (h : MapS w b m) {x : Nat} (hx : x < 18446744073709551616) : (Instr.lookup 49 (.map (some b)) (.int .u64 (x : Int)) false).run Try.prog w = .ok (.bool (decide (x ∈ m))) w := by
  obtain ⟨D, ho, hs⟩ := h
  obtain ⟨v, ps, hrun, hv⟩ := ho.lookup law64 Try.underlying49 (zeroB w) (plainElem_bool Try.underlying4 false) (kl_of hx)
  obtain ⟨a, rfl, ha⟩ := plainElem_bool_inv hv
  rw [hrun]
  have ha1 : D.atKey (kl x) (.lit (.bool false)) = .lit (.bool a) := by injection ha
  by_cases hm : x ∈ m
  · rw [hs.at_ x _ hm] at ha1
    simp at ha1
    simp [hm, ← ha1]
  · rw [atKey_of_not_has (by rw [hs.has]; simp [hm])] at ha1
    simp at ha1
    simp [hm, ← ha1]
/-- m[x] = true. -/
theorem MapS.put (h : MapS w b m) {x : Nat} (hx : x < 18446744073709551616) (hm : x ∉ m) (hl : m.length ≤ 1000000) :
    ∃ w', (Instr.mapUpdate 49 (.map (some b)) (.int .u64 (x : Int)) (.bool true)).run Try.prog w = .ok () w' ∧ MapS w' b (m ++ [x]) ∧ But b w w' := by
  obtain ⟨D, ho, hs⟩ := h
  obtain ⟨w', hrun, ho', ht⟩ := ho.store law64 Try.underlying49 (by unfold maxLen; omega) (kl_of hx) (plainElem_bool Try.underlying4 true)
  refine ⟨w', hrun, .mk ho' ?_, But.ofGrown ht.grown⟩
  have him := ho.isMap
  refine ⟨fun y => ?_, fun y z hy => ?_, ?_, fun y hy => ?_⟩
  · by_cases e : y = x
    · subst e; rw [has_put_same him (kl_key y)]; simp
    · rw [has_put_other (fun q => e (kl_inj q)), hs.has]; simp [e]
  · by_cases e : y = x
    · subst e; rw [atKey_put_same him (kl_key y)]
    · rw [atKey_put_other (fun q => e (kl_inj q))]; exact hs.at_ y z (by simpa [e] using hy)
  · rw [size_put (ho.tidy law64), hs.has, hs.size]; simp [hm]
  · rcases List.mem_append.1 hy with h1 | h1
    · exact hs.lt y h1
    · simp at h1; omega
/-- delete(m, x). -/
theorem MapS.del (h : MapS w b m) (hn : m.Nodup) {x : Nat} (hx : x < 18446744073709551616) (hm : x ∈ m) (ty : TypeId) :
    ∃ w', (Builtin.delete_ #[49, 23] ty #[.map (some b), .int .u64 (x : Int)]).run Try.prog w = .ok (.tuple #[]) w' ∧ MapS w' b (m.erase x) ∧ But b w w' := by
  obtain ⟨D, ho, hs⟩ := h
  obtain ⟨w', hrun, ho', ht⟩ := ho.drop law64 Try.underlying49 (kl_of hx) ty
  refine ⟨w', hrun, .mk ho' ?_, But.ofGrown ht.grown⟩
  refine ⟨fun y => ?_, fun y z hy => ?_, ?_, fun y hy => ?_⟩
  · by_cases e : y = x
    · subst e; rw [has_del_same]; simp [hn.mem_erase_iff]
    · rw [has_del_other (fun q => e (kl_inj q)), hs.has]; simp [hn.mem_erase_iff, e]
  · have h2 := hn.mem_erase_iff.1 hy
    rw [atKey_del_other (fun q => h2.1 (kl_inj q))]; exact hs.at_ y z h2.2
  · have := size_del (k := kl x) (ho.tidy law64)
    rw [hs.has, hs.size] at this
    simp only [hm, decide_true, if_true] at this
    rw [List.length_erase_of_mem hm]; omega
  · exact hs.lt y (hn.mem_erase_iff.1 hy).2
theorem MapS.len (h : MapS w b m) (ty : TypeId) : (Builtin.len_ #[49] ty #[.map (some b)]).run Try.prog w = .ok (.int .i64 (m.length : Int)) w := by
  obtain ⟨D, ho, hs⟩ := h
  rw [ho.len Try.underlying49 ty, hs.size]
end
end Go.Proofs.Yteomgccpocgffaa
