/- Products by transforms. -/
import Derived.Test.YtgnngifnoaagjaaMath7
namespace Go.Proofs.Ytgnngifnoaagjaa
/-- The product with all its coefficients. -/
def tMul (p : Nat) (a b : List Nat) : List Nat := tab (a.length + b.length - 1) (mout p a b a.length)
/-- The products of values, place by place. -/
def zipM (p : Nat) (x y : List Nat) : List Nat := tab x.length (fun i => fmul p (x.getD i 0) (y.getD i 0))
namespace Q
section
variable {p k : Nat} (hv : vld p = true) (hk : (p - 1) % 2 ^ k = 0)
include hv hk
/-- The inverse of values: the coefficients. -/
theorem inv_values [NeZero p] (z : List Nat) (f : S p) (hz : ∀ i, i < 2 ^ k → F p (z.getD i 0) = ev (2 ^ k) f (F p (rootN p (2 ^ k)) ^ i)) (t : Nat) (ht : t < 2 ^ k) :
    F p ((tinv p k z (rootN p (2 ^ k)) (2 ^ k)).getD t 0) = f t := by
  have hw := root_Rt hv hk
  have hu : F p (finv p (rootN p (2 ^ k))) * F p (rootN p (2 ^ k)) = 1 := by have := F_finv hv (a := rootN p (2 ^ k)) (hw.ne_zero hv); grind
  rw [F_tinv hv hw _ t ht, ev_sg]
  rw [sg_congr (g := fun i => ev (2 ^ k) f (F p (rootN p (2 ^ k)) ^ i) * (F p (finv p (rootN p (2 ^ k))) ^ t) ^ i) _ (fun i hi => by show F p _ * _ = _; rw [hz i hi])]
  rw [dft_back hv hw hu _ t ht]
  have := F_finv hv (a := 2 ^ k) (n_ne hv hk)
  grind
theorem mul_values (a b : List Nat) (ha : 0 < a.length) (hb : 0 < b.length) (hn : a.length + b.length ≤ 2 ^ k + 1) :
    (tinv p k (zipM p (reva p a 1 (rootN p (2 ^ k)) (2 ^ k)) (reva p b 1 (rootN p (2 ^ k)) (2 ^ k))) (rootN p (2 ^ k)) (2 ^ k)).take (a.length + b.length - 1) = tMul p a b := by
  haveI := nz_vld hv
  have hbd := vld_bd hv
  have lX : (reva p a 1 (rootN p (2 ^ k)) (2 ^ k)).length = 2 ^ k := tab_len _ _
  have lZ : (zipM p (reva p a 1 (rootN p (2 ^ k)) (2 ^ k)) (reva p b 1 (rootN p (2 ^ k)) (2 ^ k))).length = 2 ^ k := by unfold zipM; rw [tab_len, lX]
  have lT := tinv_len hv hk _ lZ (rootN p (2 ^ k)) (2 ^ k)
  have hdeg : DegLt (mulS (cf p a) (cf p b)) (2 ^ k) := fun t ht => (cf_deg a).mul (cf_deg b) t (by omega)
  have hval : ∀ i, i < 2 ^ k → F p ((zipM p (reva p a 1 (rootN p (2 ^ k)) (2 ^ k)) (reva p b 1 (rootN p (2 ^ k)) (2 ^ k))).getD i 0) = ev (2 ^ k) (mulS (cf p a) (cf p b)) (F p (rootN p (2 ^ k)) ^ i) := fun i hi => by
    unfold zipM
    rw [tab_get _ _ _ (by rw [lX]; exact hi), F_fmul hv, F_reva hv _ _ _ _ _ hi, F_reva hv _ _ _ _ _ hi, F_one]
    rw [← ev_more hdeg _ (2 ^ k + 2 ^ k) (by omega)] 
    rw [ev_mul (cf_deg a) (cf_deg b) _ _ (by omega), show (1 : Fin p) * F p (rootN p (2 ^ k)) ^ i = F p (rootN p (2 ^ k)) ^ i by grind]
  refine list_ext_F (p := p) (n := a.length + b.length - 1) (by rw [List.length_take, lT]; omega) (tab_len _ _) (fun t => ?_) (tab_lt (by omega) fun t _ => mout_lt hv _ _ _ _) fun t ht => ?_
  · have : ((tinv p k (zipM p (reva p a 1 (rootN p (2 ^ k)) (2 ^ k)) (reva p b 1 (rootN p (2 ^ k)) (2 ^ k))) (rootN p (2 ^ k)) (2 ^ k)).take (a.length + b.length - 1)).getD t 0 = if t < a.length + b.length - 1 then (tinv p k (zipM p (reva p a 1 (rootN p (2 ^ k)) (2 ^ k)) (reva p b 1 (rootN p (2 ^ k)) (2 ^ k))) (rootN p (2 ^ k)) (2 ^ k)).getD t 0 else 0 := by
      simp only [List.getD, List.getElem?_take]; split <;> simp
    rw [this]; split
    · unfold tinv; rw [map_getD (fun x => fmul p x (finv p _)) (fmul_z p _)]; exact fmul_lt hv
    · omega
  · have h1 := inv_values hv hk _ _ hval t (by omega)
    rw [List.getD_eq_getElem?_getD, List.getElem?_take, if_pos ht, ← List.getD_eq_getElem?_getD, h1]
    unfold tMul; rw [tab_get _ _ _ ht]
    have h2 := Fs_mout hv a b a.length (Nat.le_refl _)
    rw [List.take_length] at h2
    have h3 := congrFun h2 t
    exact h3.symm
end
theorem cf_tMul {p : Nat} [NeZero p] (hv : vld p = true) (a b : List Nat) (_ha : 0 < a.length) (_hb : 0 < b.length) : cf p (tMul p a b) = mulS (cf p a) (cf p b) := by
  have h2 := Fs_mout hv a b a.length (Nat.le_refl _)
  rw [List.take_length] at h2
  apply S.ext; intro t
  unfold cf tMul
  rw [tab_getD]
  split
  · exact congrFun h2 t
  · rw [F_zero]; exact ((cf_deg a).mul (cf_deg b) t (by omega)).symm
end Q
end Go.Proofs.Ytgnngifnoaagjaa
