/- Contract of markset's List. -/
import Derived.Test.YteomgccpocgffaaMk2
import Derived.Test.YteomgccpocgffaaSrt
import Derived.Test.YteomgccpocgffaaLaw
namespace Go.Proofs.Yteomgccpocgffaa
open Go.RowKit Go.Maps

/-- What was collected so far. -/
structure Coll (m l : List Nat) (left : Lit → Bool) : Prop where
  nodup : l.Nodup
  mem : ∀ x, x ∈ l ↔ x ∈ m ∧ left (kl x) = false
  of : ∀ x, left (kl x) = true → x ∈ m
def LsRel (m : List Nat) (D : DataW Unit) (w : World) (b r : Nat) (v : Value) (wr : World) : Prop :=
  ∃ (left : Lit → Bool) (cnt : Nat) (l : List Nat), wr.ranges Try.prog 23 (plainElem Try.prog 4) b r m.length D left cnt ∧ Own wr w.heap.size v l ∧ Coll m l left ∧ Ext w wr
theorem Coll.len {m l : List Nat} {left : Lit → Bool} (h : Coll m l left) : l.length ≤ m.length :=
  h.nodup.length_le_of_subset (fun x hx => ((h.mem x).1 hx).1)
theorem ranges_at {w w' : World} {b r n cnt : Nat} {D : DataW Unit} {left : Lit → Bool} (h : w.ranges Try.prog 23 (plainElem Try.prog 4) b r n D left cnt) (h1 : w'.heap[b]? = w.heap[b]?) (h2 : w'.heap[r]? = w.heap[r]?) : w'.ranges Try.prog 23 (plainElem Try.prog 4) b r n D left cnt := by
  obtain ⟨es, clock, since, seen, c0, hb, F, hs, hD, hr, rest⟩ := h
  exact ⟨es, clock, since, seen, c0, h1.trans hb, F, hs, hD, h2.trans hr, rest⟩
theorem own_ne {w : World} {base : Nat} {v : Value} {l : List Nat} (h : Own w base v l) {k : Nat} (hk : ∀ cs t f, w.heap[k]? ≠ some (.cells cs t f)) : v.ownBlock ≠ some k := by
  rcases h.2 with ⟨rfl, _⟩ | ⟨g, cap, cur, rfl, _, hb, _⟩
  · simp [Value.ownBlock]
  · intro e
    have : g = k := by simpa [Value.ownBlock] using e
    subst this
    exact hk _ _ _ hb

theorem wpList_next_set (w : World) {ops : Array Oper} {rest : List Oper} {o : Oper} {a : Act} {Q : Exit → Act → World → Prop} (hg : o.guard = none) (it : Operand) (hop : o.op = Op.next it false) (b r n : Nat) (D : DataW Unit) (m : List Nat) (hD : SetD D m) (left : Lit → Bool) (cnt : Nat)
    (hof : ∀ x, left (kl x) = true → x ∈ m) (hit : a.eval it = .pointer (some ⟨r, 0, none⟩)) (h : w.ranges Try.prog 23 (plainElem Try.prog 4) b r n D left cnt)
    (hDone : (∀ x : Nat, left (kl x) = false) → wpList Try.prog ops Q rest (a.put o.dst (.tuple #[.bool false])) w)
    (hMore : ∀ (x : Nat) (w' : World) (cnt' : Nat), x < 18446744073709551616 → left (kl x) = true → w'.ranges Try.prog 23 (plainElem Try.prog 4) b r n D (fun z => left z && !z.sameKey (kl x)) cnt' → cnt' < cnt → w.grownBy w' (some r) → w'.heap.size = w.heap.size →
      (Instr.entry (.pointer (some ⟨r, 0, none⟩))).run Try.prog w' = .ok (.tuple #[.int .u64 (x : Int), .bool true]) w' → wpList Try.prog ops Q rest (a.put o.dst (.tuple #[.bool true, .int .u64 (x : Int), .bool true])) w') :
    wpList Try.prog ops Q (o :: rest) a w := by
  refine wpList_next_ranges w hg it hop 23 law64 (plainElem Try.prog 4) (Value.int .u64) Value.bool (fun key kl hk => by obtain ⟨x, hx, _⟩ := Maps.keyOf_int_inv Try.underlying23 hk; exact ⟨x, hx⟩) (fun v y hv => by obtain ⟨c, rfl, _⟩ := plainElem_bool_inv hv; exact ⟨c, rfl⟩) b r n D left cnt hit h (fun _ hl => hDone (fun x => hl _)) ?_
  intro x c kl0 y w' cnt' hkey hlk hv hat hrg hlt hgr hsz hen
  obtain ⟨x', ex, rfl, hwx⟩ := Maps.keyOf_int_inv Try.underlying23 hkey
  cases ex
  obtain ⟨k, rfl, hk⟩ := nat_of_wf hwx
  obtain ⟨c', ec, rfl⟩ := plainElem_bool_inv hv
  cases ec
  have h1 := hat (.lit (.bool false))
  rw [show Lit.int .u64 (k : Int) = kl k from rfl, hD.at_ k _ (hof k hlk)] at h1
  simp at h1
  subst h1
  exact hMore k w' cnt' hk hlk hrg hlt hgr hsz hen

set_option maxRecDepth 100000 in
set_option maxHeartbeats 2000000 in
theorem List_c (m : List Nat) (ps b : Nat) (w : World) (hs : St w ps b m) (hn : m.Nodup) (hl : m.length ≤ 100000) :
    Calls Try.prog 20 #[.pointer (some ⟨ps, 0, none⟩)] w (SlPost w (srt m)) := by
  have hc := hs.cell
  have hlen := hs.map.len
  have hlt := hs.map.lt
  have hmk := make_c 0 m.length (Nat.zero_le _) (by omega)
  have hc1 : (w.alloc (.cells (rowA (List.replicate m.length 0)) 23)).cell? ⟨ps, 0, none⟩ = some (.map (some b)) := ((Ext.refl w).alloc _).cell hc
  have HM := Lib.hid (hs.map.ext ((Ext.refl w).alloc (.cells (rowA (List.replicate m.length 0)) 23)))
  have HO : Hid (Own (w.alloc (.cells (rowA (List.replicate m.length 0)) 23)) w.heap.size (.slice (some ⟨w.heap.size, 0, none⟩) 0 m.length) []) := Lib.hid (by
    have h1 : Blk (w.alloc (.cells (rowA (List.replicate m.length 0)) 23)) w.heap.size (rowA ([] ++ List.replicate m.length 0)) := Blk.new _ _
    have := Own.ofBlk h1 (Nat.le_refl _) (by simp [maxLen]; omega)
    simpa using this)
  have HN := Lib.hid hn
  obtain ⟨D, hown, hD⟩ := HM.out
  have HD := Lib.hid hD
  have HOW := Lib.hid hown
  have hcast : ((0 : Nat) : Int) = 0 := rfl
  rw [hcast] at hmk
  clear hs hn hD hown hcast
  go_enter Try.func20, Try.ntmps20
  go_wp2_with (first
    | (at_range; refine wpList_range_own _ rfl _ 49 rfl 23 4 law64 Try.underlying49 _ b m.length D rfl HOW.out ?_; intro w0 hrg0 hg0 hs0)
    | fail)
  go_frame
  have HRG0 := Lib.hid hrg0
  have X0 : Ext w w0 := by
    have := (Ext.refl w).alloc (.cells (rowA (List.replicate m.length 0)) 23)
    exact this.trans ⟨hg0.os, hg0.tape, hg0.output, hg0.size, fun k hk => hg0.block k hk (by simp)⟩
  have O0 := HO.out.grow (w' := w0) ⟨hg0.os, hg0.tape, hg0.output, hg0.size, fun k hk => hg0.block k hk (by simp)⟩
  have HX0 := Lib.hid X0
  have HO0 := Lib.hid O0
  obtain ⟨r, hr⟩ : ∃ r, r = (w.alloc (.cells (rowA (List.replicate m.length 0)) 23)).heap.size := ⟨_, rfl⟩
  rw [← hr] at HRG0 ⊢
  have hrw : w.heap.size ≤ r := by rw [hr]; simp
  clear hrg0 hg0 hs0 X0 O0 hr hmk hc hc1
  go_loopw [3] (LsRel m D w b r) (fun _ wr => wr.rangeLeft b r)
  case atStart => exact ⟨_, _, [], HRG0.out, HO0.out, ⟨List.nodup_nil, fun x => by rw [HD.out.has]; simp, fun x hx => by rw [HD.out.has] at hx; simpa using hx⟩, HX0.out⟩
  case round =>
    obtain ⟨left, cnt, l, hrg, ho, hC, hx⟩ := hrel
    have HRG := Lib.hid hrg
    have HOO := Lib.hid ho
    have HCC := Lib.hid hC
    have HX := Lib.hid hx
    clear hrg ho hC hx
    go_wp2_with (first
      | (at_next; refine wpList_next_set _ rfl _ rfl b r m.length D m HD.out _ _ HCC.out.of rfl HRG.out ?_ ?_)
      | fail)
    · intro hl0
      have hp : l.Perm m := List.perm_iff_count.2 fun x => by rw [HCC.out.nodup.count, HN.out.count]; simp only [HCC.out.mem, hl0, and_true]
      have hq : Hid (srt l = srt m) := Lib.hid (List.Perm.eq_of_pairwise (le := (· ≤ ·)) (fun a b _ _ h1 h2 => Nat.le_antisymm h1 h2) (srt_sorted l) (srt_sorted m) ((srt_perm l).trans (hp.trans (srt_perm m).symm)))
      have hll := HCC.out.len
      have SC := Lib.hid (Sort_own w.heap.size _ l wr HOO.out (by omega))
      clear hp
      go_wp2_with fail
      refine SC.out.mono ?_; rintro e w2 ⟨rfl, ho2, hx2⟩
      go_wp2_with fail
      go_ret
      exact ⟨_, rfl, by rw [← hq.out]; exact ho2, hx2 _ HX.out (Nat.le_refl _)⟩
    · intro x w1 cnt1 hxb hlk hrg1 hlt1 hg1 hs1 hen
      have hnr : ∀ cs t f, wr.heap[r]? ≠ some (.cells cs t f) := fun cs t f e => by
        obtain ⟨_, _, _, _, _, _, _, _, _, hr, _⟩ := HRG.out
        rw [hr] at e; cases e
      have hnb : ∀ cs t f, wr.heap[b]? ≠ some (.cells cs t f) := fun cs t f e => by
        obtain ⟨_, _, _, _, _, hb, _⟩ := HRG.out
        rw [hb] at e; cases e
      have B1 := But.ofGrown hg1
      have X1 := B1.ext HX.out hrw
      have O1 := B1.own HOO.out (own_ne HOO.out hnr)
      have hx := (Ext.refl w1).alloc (.cells #[.int .u64 (x : Int)] 23)
      have hg2 : (w1.alloc (.cells #[.int .u64 (x : Int)] 23)).cell? ⟨w1.heap.size, 0, none⟩ = some (.int .u64 (x : Nat)) := by simp
      have hll := HCC.out.len
      have HB2 := Lib.hid (own_ne HOO.out hnb)
      have HR2 := Lib.hid (own_ne HOO.out hnr)
      have HRG1 := Lib.hid hrg1
      have HO1 := Lib.hid O1
      have HX1 := Lib.hid (X1.trans hx)
      have HE := Lib.hid hx
      clear hs1 hg1 B1 O1 X1 hnr hnb hrg1
      go_wp2_with (at_builtin; refine wpList_app1 rfl (.tmp 20) (.tmp 22) rfl w.heap.size _ _ rfl (HO1.out.grow HE.out) w1.heap.size x 1 rfl hg2 (by omega) HX1.out.size ?_; intro v' w3 hown3 hx3 hk3; go_frame)
      have hrg3 : w3.ranges Try.prog 23 (plainElem Try.prog 4) b r m.length D (fun z => left z && !z.sameKey (kl x)) cnt1 := by
        have h1 := HRG1.out.alloc (.cells #[.int .u64 (x : Int)] 23)
        exact ranges_at h1 (hk3 b h1.owns.lt HB2.out) (hk3 r h1.lt HR2.out)
      go_roundw
      case rel =>
        refine ⟨_, cnt1, l ++ [x], hrg3, hown3, ⟨?_, fun y => ?_, fun y hy => ?_⟩, hx3 _ HX1.out (Nat.le_refl _)⟩
        · rw [List.nodup_append]
          refine ⟨HCC.out.nodup, by simp, fun a ha b hb => ?_⟩
          rw [List.mem_singleton] at hb
          subst hb
          intro e
          subst e
          have := ((HCC.out.mem _).1 ha).2
          rw [hlk] at this; cases this
        · rw [List.mem_append, List.mem_singleton, HCC.out.mem, sameKl]
          by_cases e : y = x
          · subst e; simp [HCC.out.of _ hlk]
          · simp [e]
        · rw [Bool.and_eq_true] at hy
          exact HCC.out.of _ hy.1
      case measure => rw [hrg3.left_eq, HRG.out.left_eq]; exact hlt1
end Go.Proofs.Yteomgccpocgffaa
