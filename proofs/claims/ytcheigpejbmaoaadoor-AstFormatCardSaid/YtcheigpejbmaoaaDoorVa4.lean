/- Valid: the package. Printed by gen/val4.py. -/
import Derived.Test.YtcheigpejbmaoaaDoorVa2
import Derived.Test.YtcheigpejbmaoaaDoorVa3
import Derived.Test.YtcheigpejbmaoaaDoorAxB
namespace Go.Proofs.YtcheigpejbmaoaaDoor
open Go.RowKit
theorem sumL_get {T : Type} (f : T → Nat) : ∀ {l : List T} {i : Nat} {x : T}, l[i]? = some x → f x ≤ sumL f l
  | [], i, x, h => by simp at h
  | e :: l, 0, x, h => by
    have h' : e = x := by simpa using h
    subst h'
    show f e ≤ f e + sumL f l; omega
  | e :: l, i + 1, x, h => by
    have := sumL_get f (l := l) (i := i) (x := x) (by simpa using h)
    show f x ≤ f e + sumL f l
    omega
set_option maxRecDepth 100000 in
set_option maxHeartbeats 8000000 in
theorem Valid_c (x : G) (hwt : wtG x ≤ 1000000000) (w : World) (hx : InG w x) : Calls Tryd.prog 12 #[x.v] w fun r w' => r = .returned (.int .i64 (valG x)) ∧ Ext w w' := by
  have hwt2 : wtSs x.body + x.decls.length + x.funcs.length + sumL wtF x.funcs + sumL nmD x.decls ≤ 1000000000 := hwt
  have EF := fun w' h => everyF_c okF x.funcs x.funcs.length rfl x.fa x.fc w' h (fun i u _ w2 h2 => isFunc_c u w2 h2)
  have ED := fun w' h => everyD_c okD x.decls x.decls.length rfl x.da x.dc w' h (fun i u _ w2 _ => isDecl_c u w2)
  have ES := fun w' h => everyS_c okS x.body x.body.length rfl x.ba x.bc w' h (fun i u _ w2 h2 => isStmt_c u w2 h2)
  have GF := fun w' h => everyFh_c shF x.funcs x.funcs.length rfl x.fa x.fc w' h (fun i u hu w2 h2 => isShallowFunc_c u (by have := sumL_get wtF hu; have e : wtF u = u.name.size + u.params.length + wtSs u.body + wtE u.e + sumL nmP u.params := rfl; omega) w2 h2)
  have GS := fun w' h => everySh_c shS x.body x.body.length rfl x.ba x.bc w' h (fun i u hu w2 h2 => isShallowStmt_c u (by have := wtSs_get hu; omega) w2 h2)
  have EQ : valG x = (if (x.funcs.all okF && (x.decls.all okD && x.body.all okS)) = true then (if (x.funcs.all shF && x.body.all shS) = true then 0 else 3) else 1) := rfl
  have HF := hx.fs
  have HD := hx.ds
  have HL := hx.body
  obtain ⟨R, hR⟩ : ∃ R, R = valG x := ⟨_, rfl⟩
  rw [← hR] at EQ ⊢
  unfold G.v
  obtain ⟨Bf, hBf⟩ : ∃ q, q = x.funcs.all okF := ⟨_, rfl⟩
  obtain ⟨Bd, hBd⟩ : ∃ q, q = x.decls.all okD := ⟨_, rfl⟩
  obtain ⟨Bs, hBs⟩ : ∃ q, q = x.body.all okS := ⟨_, rfl⟩
  obtain ⟨Bg, hBg⟩ : ∃ q, q = x.funcs.all shF := ⟨_, rfl⟩
  obtain ⟨Bh, hBh⟩ : ∃ q, q = x.body.all shS := ⟨_, rfl⟩
  simp only [← hBf, ← hBd, ← hBs, ← hBg, ← hBh] at EQ EF ED ES GF GS
  clear hBf hBd hBs hBg hBh
  clear hR hx hwt hwt2
  obtain ⟨xq0, hxq0⟩ : ∃ q, q = x.fa := ⟨_, rfl⟩
  obtain ⟨xq1, hxq1⟩ : ∃ q, q = x.funcs.length := ⟨_, rfl⟩
  obtain ⟨xq2, hxq2⟩ : ∃ q, q = x.fc := ⟨_, rfl⟩
  obtain ⟨xq3, hxq3⟩ : ∃ q, q = x.da := ⟨_, rfl⟩
  obtain ⟨xq4, hxq4⟩ : ∃ q, q = x.decls.length := ⟨_, rfl⟩
  obtain ⟨xq5, hxq5⟩ : ∃ q, q = x.dc := ⟨_, rfl⟩
  obtain ⟨xq6, hxq6⟩ : ∃ q, q = x.ba := ⟨_, rfl⟩
  obtain ⟨xq7, hxq7⟩ : ∃ q, q = x.body.length := ⟨_, rfl⟩
  obtain ⟨xq8, hxq8⟩ : ∃ q, q = x.bc := ⟨_, rfl⟩
  simp only [← hxq0, ← hxq1, ← hxq2, ← hxq3, ← hxq4, ← hxq5, ← hxq6, ← hxq7, ← hxq8] at EF ED ES GF GS HF HD HL ⊢
  clear hxq0 hxq1 hxq2 hxq3 hxq4 hxq5 hxq6 hxq7 hxq8
  replace EQ := Lib.hid EQ
  replace EF := Lib.hid EF
  replace ED := Lib.hid ED
  replace ES := Lib.hid ES
  replace GF := Lib.hid GF
  replace GS := Lib.hid GS
  replace HF := Lib.hid HF
  replace HD := Lib.hid HD
  replace HL := Lib.hid HL
  go_enter Tryd.func12, Tryd.ntmps12
  go_wp2_with fail
  refine (EF.out _ (HF.out.to ((Ext.refl _).alloc _))).mono ?_; rintro e1 w1 ⟨rfl, x1⟩
  have c0 : w1.cell? ⟨w.heap.size, 0, none⟩ = some (.slice xq0 xq1 xq2) := x1.cell (by simp)
  have c1 : w1.cell? ⟨w.heap.size, 1, none⟩ = some (.slice xq3 xq4 xq5) := x1.cell (by simp)
  have c2 : w1.cell? ⟨w.heap.size, 2, none⟩ = some (.slice xq6 xq7 xq8) := x1.cell (by simp)
  have X := x1.box
  clear x1
  cases Bf
  · go_wp2_with fail
    go_ret
    exact ⟨by go_light; simp [EQ.out], X⟩
  · go_wp2_with fail
    refine (ED.out _ (HD.out.to X)).mono ?_; rintro e2 w2 ⟨rfl, x2⟩
    replace c0 := x2.cell c0
    replace c2 := x2.cell c2
    clear c1
    replace X := X.trans x2
    clear x2
    cases Bd
    · go_wp2_with fail
      go_ret
      exact ⟨by go_light; simp [EQ.out], X⟩
    · go_wp2_with fail
      refine (ES.out _ (HL.out.to X)).mono ?_; rintro e3 w3 ⟨rfl, x3⟩
      replace c0 := x3.cell c0
      replace c2 := x3.cell c2
      replace X := X.trans x3
      clear x3
      cases Bs
      · go_wp2_with fail
        go_ret
        exact ⟨by go_light; simp [EQ.out], X⟩
      · go_wp2_with fail
        refine (GF.out _ (HF.out.to X)).mono ?_; rintro e4 w4 ⟨rfl, x4⟩
        replace c2 := x4.cell c2
        clear c0
        replace X := X.trans x4
        clear x4
        cases Bg
        · go_wp2_with fail
          go_ret
          exact ⟨by go_light; simp [EQ.out], X⟩
        · go_wp2_with fail
          refine (GS.out _ (HL.out.to X)).mono ?_; rintro e5 w5 ⟨rfl, x5⟩
          clear c2
          replace X := X.trans x5
          clear x5
          cases Bh
          · go_wp2_with fail
            go_ret
            exact ⟨by go_light; simp [EQ.out], X⟩
          · go_wp2_with fail
            go_ret
            exact ⟨by go_light; simp [EQ.out], X⟩
end Go.Proofs.YtcheigpejbmaoaaDoor
