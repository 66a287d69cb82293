/- Transforms: what the program computes is what the document says. -/
import Derived.Test.YtgnngifnoaagjaaMath5
set_option linter.unusedSectionVars false
namespace Go.Proofs.Ytgnngifnoaagjaa
/-! ### the document's lists, and the program's -/
def rdom (p s w n : Nat) : List Nat := tab n (dmK p s w)
def reva (p : Nat) (a : List Nat) (s w n : Nat) : List Nat := tab n (fun i => horner p (dmK p s w i) a)
def rintl (p : Nat) (v : List Nat) (s w n : Nat) : List Nat :=
  tab n (fun i => fmul p ((reva p v 1 w n).getD (if i = 0 then 0 else n - i) 0) (dmK p (finv p n) (finv p (s % p)) i))
def tfor (p k : Nat) (a : List Nat) (w : Nat) : List Nat := fft p k (a.map (fred p)) w
def tinv (p k : Nat) (a : List Nat) (w n : Nat) : List Nat := (fft p k (a.map (fred p)) (finv p w)).map (fun x => fmul p x (finv p n))
def teva (p k : Nat) (a : List Nat) (s w n : Nat) : List Nat := fft p k (tab n (fold p a s n a.length)) w
def tint (p k : Nat) (v : List Nat) (s w n : Nat) : List Nat := tab n (fun i => fmul p ((tinv p k v w n).getD i 0) (pwK p (finv p s) i))
namespace Q
theorem half {p : Nat} (hv : vld p = true) : gent p ^ ((p - 1) / 2) % p = p - 1 := by
  have aux : ∀ q, decide ((q - 1) / 2 < 2 ^ 64 ∧ 0 < q ∧ pm 64 (gent q) ((q - 1) / 2) q = q - 1) = true → gent q ^ ((q - 1) / 2) % q = q - 1 := fun q h => by
    obtain ⟨h, h0, h2⟩ := of_decide_eq_true h
    rw [← pm_spec q 64 (gent q) _ h, h2]; exact Nat.mod_eq_of_lt (by omega)
  rcases vld_cases hv with rfl | rfl | rfl | rfl | rfl | rfl | rfl
  · exact aux 17 (by decide +kernel)
  · exact aux 97 (by decide +kernel)
  · exact aux 193 (by decide +kernel)
  · exact aux 257 (by decide +kernel)
  · exact aux 12289 (by decide +kernel)
  · exact aux 65537 (by decide +kernel)
  · exact aux 18446744069414584321 (by decide +kernel)
section
variable {p : Nat} [NeZero p]
theorem half_F (hv : vld p = true) : F p (gent p) ^ ((p - 1) / 2) = -1 := by
  rw [← F_pow, ← F_mod, half hv]
  have h1 : F p (p - 1) + F p 1 = 0 := by rw [← F_add, Nat.sub_add_cancel (by have := vld_bd hv; omega), F_p]
  rw [F_one] at h1; grind
theorem root_Rt (hv : vld p = true) {k : Nat} (h : (p - 1) % 2 ^ k = 0) : Rt (F p (rootN p (2 ^ k))) k := by
  have hb := vld_bd hv
  unfold rootN
  rw [F_mod, F_pow]
  cases k with
  | zero =>
    show _ = (1 : Fin p)
    rw [Nat.pow_zero, Nat.div_one]
    have : (p - 1) = (p - 1) / 2 * 2 := by
      rcases vld_cases hv with rfl | rfl | rfl | rfl | rfl | rfl | rfl <;> decide
    rw [this, pow_mul', half_F hv]; grind
  | succ k =>
    show _ ^ (2 ^ k) = (-1 : Fin p)
    rw [← pow_mul', ← half_F hv]
    congr 1
    obtain ⟨m, hm⟩ := Nat.dvd_of_mod_eq_zero h
    rw [hm, Nat.mul_div_cancel_left _ (Nat.two_pow_pos _), Nat.pow_succ, Nat.mul_assoc, Nat.mul_comm 2 m, ← Nat.mul_assoc, Nat.mul_div_cancel _ (by omega), Nat.mul_comm]
theorem n_ne (hv : vld p = true) {k : Nat} (h : (p - 1) % 2 ^ k = 0) : F p (2 ^ k) ≠ 0 := by
  have hb := vld_bd hv
  rw [Ne, F_eq_zero]
  have h1 : 2 ^ k ≤ p - 1 := Nat.le_of_dvd (by omega) (Nat.dvd_of_mod_eq_zero h)
  have h2 := Nat.two_pow_pos k
  rw [Nat.mod_eq_of_lt (by omega)]; omega
theorem Rt.ne_zero {w : Fin p} {k : Nat} (hv : vld p = true) (h : Rt w k) : w ≠ 0 := by
  intro h0
  have h1 := h.one
  have h2 := Nat.two_pow_pos k
  rw [h0, show 2 ^ k = (2 ^ k - 1) + 1 by omega, pow_add'] at h1
  exact F_one_ne hv (by rw [← h1]; grind)
theorem Rt.inv (_hv : vld p = true) {w u : Fin p} {k : Nat} (h : Rt w k) (hu : u * w = 1) : Rt u k := by
  cases k with
  | zero => have h0 : w = 1 := h; show u = 1; rw [h0] at hu; grind
  | succ k =>
    have h0 : w ^ (2 ^ k) = -1 := h
    show u ^ (2 ^ k) = -1
    have h1 : u ^ (2 ^ k) * w ^ (2 ^ k) = 1 := by rw [← mul_pow', hu, one_pow']
    rw [h0] at h1; grind
theorem F_dmK (hv : vld p = true) (s w : Nat) : ∀ i, F p (dmK p s w i) = F p s * F p w ^ i
  | 0 => by rw [dmK]; grind
  | i + 1 => by rw [dmK, F_fmul hv, F_dmK hv s w i]; grind
def scS (f : S p) (s : Fin p) : S p := fun t => f t * s ^ t
theorem ev_scale (f : S p) (s x : Fin p) : ∀ n, ev n (scS f s) x = ev n f (s * x) := by
  intro n; rw [ev_sg, ev_sg]; apply sg_congr; intro t _; simp only [scS]; rw [mul_pow']; grind
theorem cf_mapred (hv : vld p = true) (a : List Nat) : cf p (a.map (fred p)) = cf p a := by
  apply S.ext; intro t; unfold cf; rw [map_getD _ (fred_zero p), F_fred hv]
end
theorem fft_lt {p : Nat} (hv : vld p = true) : ∀ k (l : List Nat) w, (∀ t, l.getD t 0 < p) → ∀ t, (fft p k l w).getD t 0 < p
  | 0, _, _, h, t => h t
  | k + 1, l, w, _, t => by
    have hb := vld_bd hv
    rw [fft, tab_getD]; split
    · unfold joinv; split
      · exact fadd_lt hv
      · exact fsub_lt hv
    · omega
theorem mapred_lt {p : Nat} (hv : vld p = true) (a : List Nat) (t : Nat) : (a.map (fred p)).getD t 0 < p := by
  rw [map_getD _ (fred_zero p)]; exact fred_lt hv
theorem list_ext_F {p : Nat} [NeZero p] {l m : List Nat} {n : Nat} (h1 : l.length = n) (h2 : m.length = n) (hl : ∀ t, l.getD t 0 < p) (hm : ∀ t, m.getD t 0 < p) (h : ∀ t, t < n → F p (l.getD t 0) = F p (m.getD t 0)) : l = m := by
  rw [list_tab l, list_tab m, h1, h2]
  exact tab_congr fun t ht => F_inj (hl t) (hm t) (h t ht)
theorem tab_lt {p n : Nat} {R : Nat → Nat} (hp : 0 < p) (h : ∀ t, t < n → R t < p) (t : Nat) : (tab n R).getD t 0 < p := by
  rw [tab_getD]; split
  · exact h t (by assumption)
  · exact hp
section
variable {p : Nat} [NeZero p]
theorem F_reva (hv : vld p = true) (a : List Nat) (s w n i : Nat) (h : i < n) : F p ((reva p a s w n).getD i 0) = ev a.length (cf p a) (F p s * F p w ^ i) := by
  unfold reva; rw [tab_get _ _ _ h, F_horner hv, F_dmK hv]
theorem F_tfor (hv : vld p = true) {k : Nat} {w : Nat} (hw : Rt (F p w) k) (a : List Nat) (i : Nat) (hi : i < 2 ^ k) : F p ((tfor p k a w).getD i 0) = ev (2 ^ k) (cf p a) (F p w ^ i) := by
  unfold tfor; rw [fft_ev hv k _ w hw i hi, cf_mapred hv]
theorem F_tinv (hv : vld p = true) {k : Nat} {w n : Nat} (hw : Rt (F p w) k) (a : List Nat) (i : Nat) (hi : i < 2 ^ k) : F p ((tinv p k a w n).getD i 0) = ev (2 ^ k) (cf p a) (F p (finv p w) ^ i) * F p (finv p n) := by
  have hu : F p (finv p w) * F p w = 1 := by have := F_finv hv (a := w) (hw.ne_zero hv); grind
  unfold tinv
  rw [map_getD (fun x => fmul p x (finv p _)) (fmul_z p _), F_fmul hv, fft_ev hv k _ _ (hw.inv hv hu) i hi, cf_mapred hv]
theorem fold_ev (hv : vld p = true) (a : List Nat) (s n : Nat) (hn : 0 < n) (x : Fin p) (hx : x ^ n = 1) : ∀ K, ev n (cf p (tab n (fold p a s n K))) x = ev K (cf p a) (F p s * x) := by
  intro K
  induction K with
  | zero =>
    rw [ev_congr (g := zeroS) x n (fun t ht => by rw [cf_tab_eq _ _ _ ht]; show F p 0 = _; rw [F_zero]; rfl), ev_zeroS]; rfl
  | succ K ih =>
    have h1 : ev n (cf p (tab n (fold p a s n (K + 1)))) x = ev n (addS (cf p (tab n (fold p a s n K))) (mono (F p (fmul p (a.getD K 0) (pwK p s K))) (K % n))) x := by
      apply ev_congr; intro t ht
      simp only [addS, mono]
      rw [cf_tab_eq _ _ _ ht, cf_tab_eq _ _ _ ht]
      show F p (if t = K % n then _ else _) = _
      by_cases h : t = K % n
      · rw [if_pos h, if_pos h, F_fadd hv]
      · rw [if_neg h, if_neg h]; grind
    have h2 : ∀ (c : Fin p) j, j < n → ev n (mono c j) x = c * x ^ j := fun c j hj => by
      rw [ev_sg, sg_one _ j n hj]
      · simp [mono]
      · intro i _ hne; simp only [mono]; rw [if_neg hne]; grind
    rw [h1, ev_add, ih, h2 _ _ (Nat.mod_lt _ hn), ev_snoc, F_fmul hv, F_pwK hv, mul_pow']
    have h3 : x ^ K = x ^ (K % n) := by
      conv => lhs; rw [← Nat.div_add_mod K n, pow_add', pow_mul', hx, one_pow']
      grind
    rw [h3]; simp only [cf]; grind
theorem Rt.pow_one {w : Fin p} {k : Nat} (h : Rt w k) (i : Nat) : (w ^ i) ^ (2 ^ k) = 1 := by
  rw [← pow_mul', Nat.mul_comm, pow_mul', h.one, one_pow']
theorem F_teva (hv : vld p = true) {k : Nat} {w : Nat} (hw : Rt (F p w) k) (a : List Nat) (s : Nat) (i : Nat) (hi : i < 2 ^ k) : F p ((teva p k a s w (2 ^ k)).getD i 0) = ev a.length (cf p a) (F p s * F p w ^ i) := by
  unfold teva
  rw [fft_ev hv k _ w hw i hi, fold_ev hv a s _ (Nat.two_pow_pos k) _ (hw.pow_one i)]
end
theorem fold_lt {p : Nat} (hv : vld p = true) (a : List Nat) (s n : Nat) : ∀ K t, fold p a s n K t < p
  | 0, _ => by have := vld_bd hv; show 0 < p; omega
  | K + 1, t => by
    show (if t = K % n then _ else _) < p
    split
    · exact fadd_lt hv
    · exact fold_lt hv a s n K t
section
variable {p k : Nat} (hv : vld p = true) (hk : (p - 1) % 2 ^ k = 0)
include hv hk
/-- Forward. -/
theorem for_same (a : List Nat) (ha : a.length = 2 ^ k) : tfor p k a (rootN p (2 ^ k)) = reva p a 1 (rootN p (2 ^ k)) (2 ^ k) := by
  haveI := nz_vld hv
  have hb := vld_bd hv
  refine list_ext_F (n := 2 ^ k) (fft_len _ _ _ _ (by simpa using ha)) (tab_len _ _) (fft_lt hv _ _ _ (mapred_lt hv a)) (tab_lt (by omega) fun t _ => horner_lt hv _ _) fun t ht => ?_
  rw [F_tfor hv (root_Rt hv hk) a t ht, F_reva hv _ _ _ _ _ ht, F_one, ha]; congr 1; grind
theorem eva_same (a : List Nat) (s : Nat) : teva p k a s (rootN p (2 ^ k)) (2 ^ k) = reva p a s (rootN p (2 ^ k)) (2 ^ k) := by
  haveI := nz_vld hv
  have hb := vld_bd hv
  refine list_ext_F (n := 2 ^ k) (fft_len _ _ _ _ (tab_len _ _)) (tab_len _ _) (fft_lt hv _ _ _ (tab_lt (by omega) fun t _ => fold_lt hv _ _ _ _ _)) (tab_lt (by omega) fun t _ => horner_lt hv _ _) fun t ht => ?_
  rw [F_teva hv (root_Rt hv hk) a s t ht, F_reva hv _ _ _ _ _ ht]
theorem tinv_len (a : List Nat) (ha : a.length = 2 ^ k) (w n : Nat) : (tinv p k a w n).length = 2 ^ k := by
  unfold tinv; rw [List.length_map, fft_len _ _ _ _ (by simpa using ha)]
theorem finv_mod (s : Nat) : finv p (s % p) = finv p s := by
  unfold finv fpow; rw [if_pos hv, if_pos hv, ← Nat.pow_mod]
theorem int_same (v : List Nat) (hl : v.length = 2 ^ k) (s : Nat) : tint p k v s (rootN p (2 ^ k)) (2 ^ k) = rintl p v s (rootN p (2 ^ k)) (2 ^ k) := by
  haveI := nz_vld hv
  have hb := vld_bd hv
  have hw := root_Rt hv hk
  have hu : F p (finv p (rootN p (2 ^ k))) * F p (rootN p (2 ^ k)) = 1 := by have := F_finv hv (a := rootN p (2 ^ k)) (hw.ne_zero hv); grind
  unfold tint rintl
  refine tab_congr fun t ht => F_inj (fmul_lt hv) (fmul_lt hv) ?_
  rw [F_fmul hv, F_fmul hv, F_tinv hv hw v t ht, F_pwK hv, F_dmK hv, finv_mod hv hk]
  have h2 := Nat.two_pow_pos k
  rw [F_reva hv _ _ _ _ _ (by split <;> omega), F_one, hl]
  have e : F p (finv p (rootN p (2 ^ k))) ^ t = 1 * F p (rootN p (2 ^ k)) ^ (if t = 0 then 0 else 2 ^ k - t) := by
    split
    · rename_i h; subst h; grind
    · have h3 : F p (rootN p (2 ^ k)) ^ (2 ^ k - t) * F p (rootN p (2 ^ k)) ^ t = 1 := by rw [← pow_add', show 2 ^ k - t + t = 2 ^ k by omega, hw.one]
      have h4 : F p (finv p (rootN p (2 ^ k))) ^ t * F p (rootN p (2 ^ k)) ^ t = 1 := by rw [← mul_pow', hu, one_pow']
      have : F p (rootN p (2 ^ k)) ^ (2 ^ k - t) * F p (rootN p (2 ^ k)) ^ t * F p (finv p (rootN p (2 ^ k))) ^ t = F p (finv p (rootN p (2 ^ k))) ^ t := by rw [h3]; grind
      rw [← this]
      have : ∀ a b c : Fin p, c * b = 1 → a * b * c = 1 * a := fun a b c h => by grind
      exact this _ _ _ h4
  rw [e]; grind
theorem inv_same (v : List Nat) (hl : v.length = 2 ^ k) : tinv p k v (rootN p (2 ^ k)) (2 ^ k) = rintl p v 1 (rootN p (2 ^ k)) (2 ^ k) := by
  haveI := nz_vld hv
  rw [← int_same hv hk v hl 1]
  unfold tint
  have h1 : finv p 1 = 1 := by
    unfold finv fpow; rw [if_pos hv, Nat.one_pow]; exact Nat.mod_eq_of_lt (by have := vld_bd hv; omega)
  conv => lhs; rw [list_tab (tinv p k v (rootN p (2 ^ k)) (2 ^ k)), tinv_len hv hk v hl]
  refine tab_congr fun t ht => ?_
  apply F_inj (p := p)
  · unfold tinv; rw [map_getD (fun x => fmul p x (finv p _)) (fmul_z p _)]; exact fmul_lt hv
  · exact fmul_lt hv
  rw [F_fmul hv, h1, F_pwK hv, F_one, one_pow']; grind
/-- Back and forth. -/
theorem inv_for (a : List Nat) (ha : a.length = 2 ^ k) : tinv p k (tfor p k a (rootN p (2 ^ k))) (rootN p (2 ^ k)) (2 ^ k) = a.map (fred p) := by
  haveI := nz_vld hv
  have hb := vld_bd hv
  have hw := root_Rt hv hk
  have hu : F p (finv p (rootN p (2 ^ k))) * F p (rootN p (2 ^ k)) = 1 := by have := F_finv hv (a := rootN p (2 ^ k)) (hw.ne_zero hv); grind
  have hl : (tfor p k a (rootN p (2 ^ k))).length = 2 ^ k := fft_len _ _ _ _ (by simpa using ha)
  refine list_ext_F (n := 2 ^ k) (tinv_len hv hk _ hl _ _) (by simpa using ha) (fun t => by unfold tinv; rw [map_getD (fun x => fmul p x (finv p _)) (fmul_z p _)]; exact fmul_lt hv) (mapred_lt hv a) fun t ht => ?_
  rw [F_tinv hv hw _ t ht, map_getD _ (fred_zero p), F_fred hv, ev_sg]
  rw [sg_congr (g := fun i => ev (2 ^ k) (cf p a) (F p (rootN p (2 ^ k)) ^ i) * (F p (finv p (rootN p (2 ^ k))) ^ t) ^ i) _ (fun i hi => by show F p _ * _ = _; rw [F_tfor hv hw a i hi])]
  rw [dft_back hv hw hu _ t ht]
  have := F_finv hv (a := 2 ^ k) (n_ne hv hk)
  simp only [cf]; grind
theorem ev_tinv (a : List Nat) (t : Nat) (ht : t < 2 ^ k) [NeZero p] : ev (2 ^ k) (cf p (tinv p k a (rootN p (2 ^ k)) (2 ^ k))) (F p (rootN p (2 ^ k)) ^ t) = cf p a t := by
  have hw := root_Rt hv hk
  have hu : F p (rootN p (2 ^ k)) * F p (finv p (rootN p (2 ^ k))) = 1 := F_finv hv (a := rootN p (2 ^ k)) (hw.ne_zero hv)
  have hwi := hw.inv hv (by rw [← hu]; grind : F p (finv p (rootN p (2 ^ k))) * F p (rootN p (2 ^ k)) = 1)
  rw [ev_sg]
  rw [sg_congr (g := fun i => F p (finv p (2 ^ k)) * (ev (2 ^ k) (cf p a) (F p (finv p (rootN p (2 ^ k))) ^ i) * (F p (rootN p (2 ^ k)) ^ t) ^ i)) _ (fun i hi => by show F p _ * _ = _; rw [F_tinv hv hw a i hi]; grind)]
  rw [sg_mul, dft_back hv hwi hu _ t ht]
  have := F_finv hv (a := 2 ^ k) (n_ne hv hk)
  grind
theorem for_inv (a : List Nat) (ha : a.length = 2 ^ k) : tfor p k (tinv p k a (rootN p (2 ^ k)) (2 ^ k)) (rootN p (2 ^ k)) = a.map (fred p) := by
  haveI := nz_vld hv
  have hw := root_Rt hv hk
  refine list_ext_F (n := 2 ^ k) (fft_len _ _ _ _ (by rw [List.length_map]; exact tinv_len hv hk a ha _ _)) (by simpa using ha) (fft_lt hv _ _ _ (mapred_lt hv _)) (mapred_lt hv a) fun t ht => ?_
  rw [F_tfor hv hw _ t ht, ev_tinv hv hk a t ht, map_getD _ (fred_zero p), F_fred hv]; rfl
theorem cf_tint (v : List Nat) (s : Nat) (t : Nat) (ht : t < 2 ^ k) (n : Nat) [NeZero p] : cf p (tint p k v s (rootN p (2 ^ k)) (2 ^ k)) t = cf p (tinv p k v (rootN p (2 ^ k)) (2 ^ k)) t * F p (finv p s) ^ t ∧ n = n := by
  refine ⟨?_, rfl⟩
  unfold tint; rw [cf_tab_eq _ _ _ ht, F_fmul hv, F_pwK hv]; rfl
/-- The interpolated polynomial has the values. -/
theorem int_value (v : List Nat) (hl : v.length = 2 ^ k) (s : Nat) (hs : s % p ≠ 0) (i : Nat) (hi : i < 2 ^ k) :
    horner p (dmK p (s % p) (rootN p (2 ^ k)) i) (rintl p v s (rootN p (2 ^ k)) (2 ^ k)) = fred p (v.getD i 0) := by
  haveI := nz_vld hv
  have hs' : F p s ≠ 0 := fun h => hs (F_eq_zero.1 h)
  have hinv := F_finv hv hs'
  apply F_inj (p := p) (horner_lt hv _ _) (fred_lt hv)
  rw [← int_same hv hk v hl s, F_horner hv, F_dmK hv, F_mod, F_fred hv]
  have hlen : (tint p k v s (rootN p (2 ^ k)) (2 ^ k)).length = 2 ^ k := tab_len _ _
  rw [hlen]
  rw [ev_congr (g := scS (cf p (tinv p k v (rootN p (2 ^ k)) (2 ^ k))) (F p (finv p s))) _ _ (fun t ht => (cf_tint hv hk v s t ht 0).1), ev_scale]
  rw [show F p (finv p s) * (F p s * F p (rootN p (2 ^ k)) ^ i) = F p (rootN p (2 ^ k)) ^ i by grind, ev_tinv hv hk v i hi]; rfl
theorem int_eva (a : List Nat) (ha : a.length = 2 ^ k) (s : Nat) (hs : s % p ≠ 0) : tint p k (teva p k a (s % p) (rootN p (2 ^ k)) (2 ^ k)) s (rootN p (2 ^ k)) (2 ^ k) = a.map (fred p) := by
  haveI := nz_vld hv
  have hb := vld_bd hv
  have hw := root_Rt hv hk
  have hs' : F p s ≠ 0 := fun h => hs (F_eq_zero.1 h)
  have hinv := F_finv hv hs'
  have hu : F p (finv p (rootN p (2 ^ k))) * F p (rootN p (2 ^ k)) = 1 := by have := F_finv hv (a := rootN p (2 ^ k)) (hw.ne_zero hv); grind
  refine list_ext_F (n := 2 ^ k) (tab_len _ _) (by simpa using ha) (tab_lt (by omega) fun t _ => fmul_lt hv) (mapred_lt hv a) fun t ht => ?_
  have h1 := (cf_tint hv hk (teva p k a (s % p) (rootN p (2 ^ k)) (2 ^ k)) s t ht 0).1
  have h2 : cf p (tinv p k (teva p k a (s % p) (rootN p (2 ^ k)) (2 ^ k)) (rootN p (2 ^ k)) (2 ^ k)) t = cf p a t * F p s ^ t := by
    show F p _ = _
    rw [F_tinv hv hw _ t ht, ev_sg]
    rw [sg_congr (g := fun i => ev (2 ^ k) (scS (cf p a) (F p s)) (F p (rootN p (2 ^ k)) ^ i) * (F p (finv p (rootN p (2 ^ k))) ^ t) ^ i) _ (fun i hi => by show F p _ * _ = _; rw [F_teva hv hw a _ i hi, F_mod, ha, ev_scale])]
    rw [dft_back hv hw hu _ t ht]
    have := F_finv hv (a := 2 ^ k) (n_ne hv hk)
    simp only [scS]; grind
  rw [h2] at h1
  rw [map_getD _ (fred_zero p), F_fred hv]
  have h3 : F p s ^ t * F p (finv p s) ^ t = 1 := by rw [← mul_pow', hinv, one_pow']
  have h4 : F p ((tint p k (teva p k a (s % p) (rootN p (2 ^ k)) (2 ^ k)) s (rootN p (2 ^ k)) (2 ^ k)).getD t 0) = cf p a t * F p s ^ t * F p (finv p s) ^ t := h1
  rw [h4]; simp only [cf]; grind
end
end Q
end Go.Proofs.Ytgnngifnoaagjaa
