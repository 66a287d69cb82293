/- The writers of expressions: words, levels, lists. Printed by gen/as6.py. -/
import Derived.Test.YtcheigpejbmaoaaDoorAs5
namespace Go.Proofs.YtcheigpejbmaoaaDoor
open Go.RowKit
/-- The length of a part of a text. -/
theorem lenS (s : ByteArray) : s.size = s.data.toList.length := Lib.size_eq s
theorem Aft.grow {b : Nat} {l : List UInt8} {v v' : Value} {w w' w'' : World} (h : Aft b v w l v' w') (hx : Ext w' w'') : Aft b v w l v' w'' := h.trans (Aft.ofExt h.bx hx)
theorem Aft.start {b : Nat} {l l' : List UInt8} {v v' : Value} {w w1 w' : World} (h : BX b l v w) (hx : Ext w w1) (ha : Aft b v w1 l' v' w') : Aft b v w l' v' w' := (Aft.ofExt h hx).trans ha
theorem Past.le {n m b : Nat} {v : Value} (h : Past n b v) (hm : m ≤ n) : Past m b v := ⟨Nat.le_trans hm h.1, fun k hk => Nat.le_trans hm (h.2 k hk)⟩
/-- The contract of a function f that writes an expression (without a level). -/
def WBc (f : FuncId) (e : E) : Prop := ∀ (w0 : World) (b : Nat) (l : List UInt8) (v : Value) (w : World), InE w0 e → Tab w0 → Ext w0 w → BX b l v w → Past w0.heap.size b v → l.length + (txB e).length ≤ 140737488355328 →
  Calls Tryd.prog f #[.pointer (some ⟨b, 0, none⟩), e.v] w fun x w' => x = .returned (.tuple #[]) ∧ ∃ v', Aft b v w (l ++ txB e) v' w'
/-- The contract of writeExpr. -/
def WE (e : E) : Prop := ∀ (w0 : World) (b : Nat) (l : List UInt8) (v : Value) (w : World) (r : Int), InE w0 e → Tab w0 → Ext w0 w → BX b l v w → Past w0.heap.size b v → l.length + (par e.op r (txB e)).length ≤ 140737488355328 →
  Calls Tryd.prog 57 #[.pointer (some ⟨b, 0, none⟩), e.v, .int .i64 r] w fun x w' => x = .returned (.tuple #[]) ∧ ∃ v', Aft b v w (l ++ par e.op r (txB e)) v' w'
/-- The contract of writeList. -/
def WLc (A : List E) : Prop := ∀ (w0 : World) (b : Nat) (l : List UInt8) (v : Value) (w : World) (a : Option Addr) (c : Nat), InL w0 a A → Tab w0 → Ext w0 w → BX b l v w → Past w0.heap.size b v → l.length + (comF true (A.map txB)).length ≤ 140737488355328 →
  Calls Tryd.prog 95 #[.pointer (some ⟨b, 0, none⟩), .slice a A.length c] w fun x w' => x = .returned (.tuple #[]) ∧ ∃ v', Aft b v w (l ++ comF true (A.map txB)) v' w'
def WlRel (A : List E) (b : Nat) (v : Value) (l : List UInt8) (w : World) (s : Value) (wr : World) : Prop := ∃ (j : Nat) (v' : Value), s = .int .i64 j ∧ j ≤ A.length ∧ Aft b v w (l ++ comF true ((A.map txB).take j)) v' wr
theorem comF_le : ∀ (f : Bool) (ts : List (List UInt8)) (j : Nat), (comF f (ts.take j)).length ≤ (comF f ts).length
  | _, [], j => by simp
  | f, t :: ts, 0 => by simp [comF]
  | f, t :: ts, j + 1 => by
    have := comF_le false ts j
    simp only [List.take_succ_cons, comF, List.length_append]
    omega
set_option maxHeartbeats 4000000 in
theorem writeList_c (A : List E) (hw : ∀ (i : Nat) x, A[i]? = some x → WE x) : WLc A := by
  intro w0 b l v w a c hin ht hx hb hp hlen
  have HX := Lib.hid hx
  have HBX := Lib.hid hb
  have HP := Lib.hid hp
  have HL := Lib.hid hin
  have HLEN := Lib.hid hlen
  have HW := Lib.hid (fun (i : Nat) x (h : A[i]? = some x) l v w h1 h2 h3 h4 h5 => hw i x h w0 b l v w 1 h1 ht h2 h3 h4 h5)
  obtain ⟨n, hn⟩ : ∃ q, q = A.length := ⟨_, rfl⟩
  have HN := Lib.hid hn
  have hcap := hin.2
  rw [← hn] at hcap ⊢
  clear hx hb hp hin hw hlen hn ht
  go_enter Tryd.func95, Tryd.ntmps95
  go_wp2_with fail
  go_loopw [8] (WlRel A b v l w) (fun s _ => n - (intOf s).toNat)
  case atStart => exact ⟨0, v, rfl, Nat.zero_le _, by simpa [comF] using Aft.ofExt HBX.out (Ext.refl _)⟩
  case round =>
    obtain ⟨j, v1, rfl, hj, haf⟩ := hrel
    rw [← HN.out] at hj
    have HA := Lib.hid haf
    clear haf
    by_cases hlt : j < n
    · obtain ⟨x, hxj⟩ := getE (l := A) (i := j) (by rw [← HN.out]; exact hlt)
      have HE1 := Lib.hid (HA.out.ext HX.out HP.out)
      obtain ⟨⟨ab, o, rfl, k0, k1, k2, k3⟩, hin⟩ := (HL.out.to HE1.out).at hxj
      have HIN0 := Lib.hid (HL.out.at hxj).2
      have ES : Hid (comF true ((A.map txB).take (j + 1)) = comF true ((A.map txB).take j) ++ ((if j = 0 then [] else (⟨#[44, 32]⟩ : ByteArray).data.toList) ++ par x.op 1 (txB x))) := Lib.hid (by
        have hm : (A.map txB)[j]? = some (txB x) := by rw [List.getElem?_map, hxj]; rfl
        rw [take_snoc hm, comF_snoc, par_one]
        congr 2
        have hjl : ((A.map txB).take j).isEmpty = decide (j = 0) := by
          have q2 : ((A.map txB).take j).length = j := by rw [List.length_take, List.length_map]; have := HN.out; omega
          cases hq : (A.map txB).take j with
          | nil =>
            rw [hq] at q2
            rw [decide_eq_true (show j = 0 from q2.symm)]; rfl
          | cons y ys =>
            rw [hq] at q2
            rw [decide_eq_false (show ¬ j = 0 by simp at q2; omega)]; rfl
        rw [hjl]; by_cases h : j = 0 <;> simp [h])
      have HLJ := comF_le true (A.map txB) (j + 1)
      have PC := HW.out j x hxj
      unfold E.v at PC
      obtain ⟨P, hP⟩ : ∃ q, q = comF true ((A.map txB).take j) := ⟨_, rfl⟩
      obtain ⟨Q, hQ⟩ : ∃ q, q = par x.op 1 (txB x) := ⟨_, rfl⟩
      rw [← hP] at ES HA
      rw [← hQ] at ES PC
      rw [ES.out] at HLJ
      obtain ⟨S, hS⟩ : ∃ q : List UInt8, q = if j = 0 then [] else (⟨#[44, 32]⟩ : ByteArray).data.toList := ⟨_, rfl⟩
      rw [← hS] at ES HLJ
      have HSS := Lib.hid hS
      have HLQ : Hid (l.length + (P.length + (S.length + Q.length)) ≤ 140737488355328) := Lib.hid (by have := HLEN.out; simp only [List.length_append] at HLJ; omega)
      clear hP hQ HLJ hxj hS
      obtain ⟨xo, hxo⟩ : ∃ q, q = x.op := ⟨_, rfl⟩
      obtain ⟨xv, hxv⟩ : ∃ q, q = x.val := ⟨_, rfl⟩
      obtain ⟨xn, hxn⟩ : ∃ q, q = x.name := ⟨_, rfl⟩
      obtain ⟨xa, hxa⟩ : ∃ q, q = x.a := ⟨_, rfl⟩
      obtain ⟨xl, hxl⟩ : ∃ q, q = x.args.length := ⟨_, rfl⟩
      obtain ⟨xc, hxc⟩ : ∃ q, q = x.cap := ⟨_, rfl⟩
      rw [← hxo] at k0 PC
      rw [← hxv] at k1 PC
      rw [← hxn] at k2 PC
      rw [← hxa, ← hxl, ← hxc] at k3 PC
      have HPC := Lib.hid PC
      clear hxo hxv hxn hxa hxl hxc hin PC
      by_cases hj0 : j = 0
      · have tj : ¬ 0 < j := by omega
        have HJ0 := Lib.hid hj0
        clear hj0
        go_wp2_with fail
        have HA2 := Lib.hid (HA.out.grow ((Ext.refl _).alloc (.cells #[.int .i64 xo, .int .u64 (xv : Int), .string xn, .slice xa xl xc] 44)))
        refine (HPC.out _ _ _ HIN0.out (HE1.out.trans ((Ext.refl _).alloc _)) HA2.out.bx (HA2.out.past HX.out.size HP.out) (by have q := HLQ.out; simp only [List.length_append] at q ⊢; omega)).mono ?_; rintro e1 wn ⟨rfl, vn, ha⟩
        have HA3 := Lib.hid (HA2.out.trans ha)
        clear ha k0 k1 k2 k3
        go_wp2_with fail
        go_roundw
        case rel => exact ⟨j + 1, vn, by go_num, by rw [← HN.out]; omega, by rw [ES.out, HSS.out, if_pos HJ0.out]; simpa using HA3.out⟩
        case measure => simp [intOf]; omega
      · have tj : 0 < j := by omega
        have HJ0 := Lib.hid hj0
        obtain ⟨wl, hwl⟩ : ∃ q, q = wr.alloc (.cells #[.int .i64 xo, .int .u64 (xv : Int), .string xn, .slice xa xl xc] 44) := ⟨_, rfl⟩
        have XL : Hid (Ext wr wl) := Lib.hid (by rw [hwl]; exact (Ext.refl _).alloc _)
        have d0 : wl.cell? ⟨wr.heap.size, 0, none⟩ = some (.int .i64 xo) := by rw [hwl]; simp
        have d1 : wl.cell? ⟨wr.heap.size, 1, none⟩ = some (.int .u64 (xv : Int)) := by rw [hwl]; simp
        have d2 : wl.cell? ⟨wr.heap.size, 2, none⟩ = some (.string xn) := by rw [hwl]; simp
        have d3 : wl.cell? ⟨wr.heap.size, 3, none⟩ = some (.slice xa xl xc) := by rw [hwl]; simp
        have DD := Lib.hid (And.intro d0 (And.intro d1 (And.intro d2 d3)))
        have HWL := Lib.hid hwl
        have NB : Hid (wr.heap.size ≠ b) := Lib.hid (by have := HA.out.bx.lt; omega)
        have NV : Hid (v1.ownBlock ≠ some wr.heap.size) := Lib.hid (fun q => by have := HA.out.bx.own q; omega)
        clear d0 d1 d2 d3 hwl hj0
        go_wp2_with fail
        rw [← HWL.out]
        have HA2 := Lib.hid (HA.out.grow XL.out)
        refine (WriteString_c b _ _ ⟨#[44, 32]⟩ _ HA2.out.bx (by have q := HLQ.out; rw [HSS.out, if_neg HJ0.out] at q; rw [lenS]; simp only [List.length_append] at q ⊢; omega)).mono ?_; rintro e1 wn ⟨rfl, vn, ha⟩
        have d0 := ha.cell DD.out.1 NB.out NV.out
        have d1 := ha.cell DD.out.2.1 NB.out NV.out
        have d2 := ha.cell DD.out.2.2.1 NB.out NV.out
        have d3 := ha.cell DD.out.2.2.2 NB.out NV.out
        have HA3 := Lib.hid (HA2.out.trans ha)
        clear ha k0 k1 k2 k3
        go_wp2_with fail
        refine (HPC.out _ _ _ HIN0.out (HA3.out.ext HX.out HP.out) HA3.out.bx (HA3.out.past HX.out.size HP.out) (by have q := HLQ.out; rw [HSS.out, if_neg HJ0.out] at q; simp only [List.length_append] at q ⊢; omega)).mono ?_; rintro e1 wn2 ⟨rfl, vn2, ha⟩
        have HA4 := Lib.hid (HA3.out.trans ha)
        clear ha d0 d1 d2 d3
        go_wp2_with fail
        go_roundw
        case rel =>
          refine ⟨j + 1, vn2, by go_num, by rw [← HN.out]; omega, ?_⟩
          rw [ES.out, HSS.out, if_neg HJ0.out]
          have q := HA4.out
          simp only [List.append_assoc] at q ⊢
          exact q
        case measure => simp [intOf]; omega
    · obtain rfl : j = n := by omega
      have ET : Hid ((A.map txB).take j = A.map txB) := Lib.hid (List.take_of_length_le (by rw [List.length_map, HN.out]; exact Nat.le_refl _))
      rw [ET.out] at HA
      go_wp2_with fail
      go_end0
      exact ⟨rfl, _, HA.out⟩
set_option maxRecDepth 100000 in
set_option maxHeartbeats 4000000 in
theorem level_c (op : Int) (v : Nat) (s : ByteArray) (a : Option Addr) (n c : Nat) (w : World) : Calls Tryd.prog 81 #[.agg #[.int .i64 op, .int .u64 (v : Int), .string s, .slice a n c]] w fun r w' => r = .returned (.int .i64 (lvl op)) ∧ Ext w w' := by
  by_cases h20 : op = 20
  · subst h20
    go_enter Tryd.func81, Tryd.ntmps81
    go_wp2
    go_ret
    exact ⟨rfl, (Ext.refl _).alloc _⟩
  have t20 : (op == 20) = false := beq_eq_false_iff_ne.2 h20
  by_cases h19 : op = 19
  · subst h19
    go_enter Tryd.func81, Tryd.ntmps81
    go_wp2
    go_ret
    exact ⟨rfl, (Ext.refl _).alloc _⟩
  have t19 : (op == 19) = false := beq_eq_false_iff_ne.2 h19
  by_cases h18 : op = 18
  · subst h18
    go_enter Tryd.func81, Tryd.ntmps81
    go_wp2
    go_ret
    exact ⟨rfl, (Ext.refl _).alloc _⟩
  have t18 : (op == 18) = false := beq_eq_false_iff_ne.2 h18
  by_cases h14 : op = 14
  · subst h14
    go_enter Tryd.func81, Tryd.ntmps81
    go_wp2
    go_ret
    exact ⟨rfl, (Ext.refl _).alloc _⟩
  have t14 : (op == 14) = false := beq_eq_false_iff_ne.2 h14
  by_cases h15 : op = 15
  · subst h15
    go_enter Tryd.func81, Tryd.ntmps81
    go_wp2
    go_ret
    exact ⟨rfl, (Ext.refl _).alloc _⟩
  have t15 : (op == 15) = false := beq_eq_false_iff_ne.2 h15
  by_cases h16 : op = 16
  · subst h16
    go_enter Tryd.func81, Tryd.ntmps81
    go_wp2
    go_ret
    exact ⟨rfl, (Ext.refl _).alloc _⟩
  have t16 : (op == 16) = false := beq_eq_false_iff_ne.2 h16
  by_cases h17 : op = 17
  · subst h17
    go_enter Tryd.func81, Tryd.ntmps81
    go_wp2
    go_ret
    exact ⟨rfl, (Ext.refl _).alloc _⟩
  have t17 : (op == 17) = false := beq_eq_false_iff_ne.2 h17
  by_cases h12 : op = 12
  · subst h12
    go_enter Tryd.func81, Tryd.ntmps81
    go_wp2
    go_ret
    exact ⟨rfl, (Ext.refl _).alloc _⟩
  have t12 : (op == 12) = false := beq_eq_false_iff_ne.2 h12
  by_cases h13 : op = 13
  · subst h13
    go_enter Tryd.func81, Tryd.ntmps81
    go_wp2
    go_ret
    exact ⟨rfl, (Ext.refl _).alloc _⟩
  have t13 : (op == 13) = false := beq_eq_false_iff_ne.2 h13
  by_cases h11 : op = 11
  · subst h11
    go_enter Tryd.func81, Tryd.ntmps81
    go_wp2
    go_ret
    exact ⟨rfl, (Ext.refl _).alloc _⟩
  have t11 : (op == 11) = false := beq_eq_false_iff_ne.2 h11
  by_cases h9 : op = 9
  · subst h9
    go_enter Tryd.func81, Tryd.ntmps81
    go_wp2
    go_ret
    exact ⟨rfl, (Ext.refl _).alloc _⟩
  have t9 : (op == 9) = false := beq_eq_false_iff_ne.2 h9
  by_cases h10 : op = 10
  · subst h10
    go_enter Tryd.func81, Tryd.ntmps81
    go_wp2
    go_ret
    exact ⟨rfl, (Ext.refl _).alloc _⟩
  have t10 : (op == 10) = false := beq_eq_false_iff_ne.2 h10
  by_cases h8 : op = 8
  · subst h8
    go_enter Tryd.func81, Tryd.ntmps81
    go_wp2
    go_ret
    exact ⟨rfl, (Ext.refl _).alloc _⟩
  have t8 : (op == 8) = false := beq_eq_false_iff_ne.2 h8
  have HS : Hid (lvl op = 9) := Lib.hid (by
    unfold lvl
    rw [if_neg h20, if_neg h19, if_neg h18, if_neg (by omega), if_neg (by omega), if_neg h11, if_neg (by omega), if_neg h8])
  clear h20 h19 h18 h14 h15 h16 h17 h12 h13 h11 h9 h10 h8
  go_enter Tryd.func81, Tryd.ntmps81
  go_wp2
  go_ret
  exact ⟨by rw [HS.out]; rfl, (Ext.refl _).alloc _⟩
set_option maxRecDepth 100000 in
theorem binaryText_c (op : Int) (h1 : 11 ≤ op) (h2 : op ≤ 19) (w : World) : Calls Tryd.prog 101 #[.int .i64 op] w fun r w' => r = .returned (.string (binS op)) ∧ w = w' := by
  have : op = 11 ∨ op = 12 ∨ op = 13 ∨ op = 14 ∨ op = 15 ∨ op = 16 ∨ op = 17 ∨ op = 18 ∨ op = 19 := by omega
  clear h1 h2
  rcases this with rfl | rfl | rfl | rfl | rfl | rfl | rfl | rfl | rfl
  all_goals
    go_enter Tryd.func101, Tryd.ntmps101
    go_wp2
    go_ret
    exact ⟨rfl, rfl⟩
end Go.Proofs.YtcheigpejbmaoaaDoor
