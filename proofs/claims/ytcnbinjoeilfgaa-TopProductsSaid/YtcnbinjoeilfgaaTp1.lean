/- Plain: the product with a matrix of shifts; linear equations for the coefficients of a polynomial. -/
import Derived.Test.YtcnbinjoeilfgaaLn9
import Derived.Test.YtcnbinjoeilfgaaGN
namespace Go.Proofs.Ytcnbinjoeilfgaa
/-- Row i of the matrix of shifts. -/
def shiftR (a : List Nat) (nb i : Nat) : List Nat := tab nb (fun k => if k ≤ i ∧ i - k < a.length then a.getD (i - k) 0 else 0)
def shiftM (a b : List Nat) : List (List Nat) := (List.range (a.length + b.length - 1)).map (shiftR a b.length)
theorem shiftM_len (a b : List Nat) : (shiftM a b).length = a.length + b.length - 1 := by unfold shiftM; simp
theorem shiftM_get {a b : List Nat} {i : Nat} (h : i < a.length + b.length - 1) : (shiftM a b).getD i [] = shiftR a b.length i := by
  unfold shiftM; simp [List.getD, h]
/-- The powers of all points. -/
def powM (p : Nat) (pts : List Nat) : List (List Nat) := pts.map (fun x => (List.range pts.length).map (gsK p x))
theorem powM_len (p : Nat) (pts : List Nat) : (powM p pts).length = pts.length := by unfold powM; simp
theorem powM_get {p : Nat} {pts : List Nat} {i : Nat} (h : i < pts.length) : (powM p pts).getD i [] = (List.range pts.length).map (gsK p (pts.getD i 0)) := by
  unfold powM; simp [List.getD, h]
theorem outD (l : List Nat) {i : Nat} (h : l.length ≤ i) : l.getD i 0 = 0 := by rw [List.getD_eq_getElem?_getD, List.getElem?_eq_none h]; rfl
namespace Q
section
variable {p : Nat} [NeZero p]
theorem mulS_sg (g : S p) : ∀ (t : Nat) (f : S p), mulS f g t = sg (t + 1) (fun k => f (t - k) * g k)
  | 0, f => by rw [mulS_zero]; show _ = 0 + f (0 - 0) * g 0; rw [Nat.sub_self]; grind
  | t + 1, f => by
    rw [mulS_succ, mulS_sg g t (tl f)]
    show _ = sg (t + 1) (fun k => f (t + 1 - k) * g k) + f (t + 1 - (t + 1)) * g (t + 1)
    rw [Nat.sub_self, sg_congr (f := fun k => tl f (t - k) * g k) (g := fun k => f (t + 1 - k) * g k) (t + 1) (fun k hk => by
      show f (t - k + 1) * g k = f (t + 1 - k) * g k
      rw [show t - k + 1 = t + 1 - k by omega])]
    grind
theorem sg_pad {h : Nat → Fin p} {m : Nat} (hz : ∀ k, m ≤ k → h k = 0) : ∀ d, sg (m + d) h = sg m h
  | 0 => rfl
  | d + 1 => by
    show sg (m + d) h + h (m + d) = sg m h
    rw [sg_pad hz d, hz _ (by omega)]; grind
theorem F_dotK (hv : vld p = true) (a b : List Nat) : ∀ i, F p (dotK p a b i) = sg i (fun k => F p (a.getD k 0) * F p (b.getD k 0))
  | 0 => F_zero
  | i + 1 => by
    show F p (fadd p (dotK p a b i) ((a.getD i 0 % p) * (b.getD i 0 % p) % p)) = _
    rw [F_fadd hv, F_dotK hv a b i, F_mod, F_mul, F_mod, F_mod]; rfl
theorem apply_shift (hv : vld p = true) (a b : List Nat) (ha : 0 < a.length) (hb : 0 < b.length) : applyM p (shiftM a b) b = tMul p a b := by
  have hbd := vld_bd hv
  have hl : (applyM p (shiftM a b) b).length = a.length + b.length - 1 := by unfold applyM; rw [tab_len, shiftM_len]
  refine list_ext_F (p := p) (n := a.length + b.length - 1) hl (tab_len _ _) (fun t => ?_) (tab_lt (by omega) fun t _ => mout_lt hv _ _ _ _) fun t ht => ?_
  · unfold applyM
    exact tab_lt (by omega) (fun _ _ => dotK_lt hv _ _ _) t
  · have h1 := congrFun (cf_tMul hv a b ha hb) t
    unfold cf at h1
    rw [h1]
    unfold applyM
    rw [tab_get _ _ _ (by rw [shiftM_len]; exact ht), F_dotK hv, shiftM_get ht]
    have h2 := mulS_sg (cf p b) t (cf p a)
    unfold cf at h2
    rw [h2]
    obtain ⟨h, hh⟩ : ∃ h : Nat → Fin p, h = fun k => (if k ≤ t then F p (a.getD (t - k) 0) else 0) * F p (b.getD k 0) := ⟨_, rfl⟩
    rw [sg_congr (g := h) b.length (fun k hk => by
      rw [hh]; simp only
      unfold shiftR
      rw [tab_get _ _ _ hk]
      by_cases e : k ≤ t
      · rw [if_pos e]
        by_cases e2 : t - k < a.length
        · rw [if_pos ⟨e, e2⟩]
        · rw [if_neg (fun q => e2 q.2), outD a (by omega)]
      · rw [if_neg e, if_neg (fun q => e q.1), F_zero])]
    rw [sg_congr (f := fun k => F p (a.getD (t - k) 0) * F p (b.getD k 0)) (g := h) (t + 1) (fun k hk => by rw [hh]; simp only; rw [if_pos (by omega)])]
    have z1 : ∀ k, b.length ≤ k → h k = 0 := fun k hk => by
      rw [hh]; simp only
      rw [outD b hk, F_zero]; grind
    have z2 : ∀ k, t + 1 ≤ k → h k = 0 := fun k hk => by
      rw [hh]; simp only
      rw [if_neg (by omega)]; grind
    rw [← sg_pad z1 (t + 1), Nat.add_comm, sg_pad z2]
theorem trim_tMul (hv : vld p = true) (a b : List Nat) (ha : 0 < a.length) (hb : 0 < b.length) : trimP p (tMul p a b) = pmul p a b := by
  refine trimmed_ext (trimP_trim _ _) (pmul_trim _ _ _) fun t => ?_
  have h2 := pmul_getD hv a b t
  refine F_inj (p := p) (trimP_red hv _ t) h2.2 ?_
  rw [h2.1, trimP_getD, F_fred hv]
  exact congrFun (cf_tMul hv a b ha hb) t
end
section
variable {p : Nat} [NeZero p]
theorem F_gsK (a : Nat) : ∀ i, F p (gsK p a i) = F p a ^ i
  | 0 => by show F p 1 = _; rw [F_one]; grind
  | i + 1 => by
    show F p (gsK p a i * (a % p) % p) = _
    rw [F_mod, F_mul, F_gsK a i, F_mod]; grind
theorem dt_sg (r : List Nat) (y : Nat → Fin p) : ∀ n, dt r y n = sg n (fun j => F p (r.getD j 0) * y j)
  | 0 => rfl
  | n + 1 => by show dt r y n + _ = _; rw [dt_sg r y n]; rfl
theorem dt_pow {r : List Nat} {x : Nat} {n : Nat} (y : S p) (hr : ∀ j, j < n → F p (r.getD j 0) = F p x ^ j) : dt r y n = ev n y (F p x) :=
  (dt_sg r y n).trans ((sg_congr n (fun j hj => by rw [hr j hj]; exact Fin.mul_comm _ _)).trans (ev_sg y (F p x) n).symm)
theorem pw_ne (hv : vld p = true) {w : Fin p} (h0 : w ≠ 0) : ∀ m : Nat, w ^ m ≠ 0
  | 0 => fun e => one_ne hv (by rw [← e]; grind)
  | m + 1 => fun e => by
    rw [pow_add', pow_one'] at e
    rcases noZD hv e with e | e
    · exact pw_ne hv h0 m e
    · exact h0 e
variable {k : Nat}
theorem rdom_ne (hv : vld p = true) (hk : (p - 1) % 2 ^ k = 0) {s : Nat} (hs : s % p ≠ 0) {i j : Nat} (hij : i < j) (hj : j < 2 ^ k) : F p (dmK p (s % p) (rootN p (2 ^ k)) i) ≠ F p (dmK p (s % p) (rootN p (2 ^ k)) j) := by
  have hw := root_Rt hv hk
  rw [F_dmK hv, F_dmK hv]
  have hs' : F p (s % p) ≠ 0 := by rw [F_mod]; exact fun h => hs (F_eq_zero.1 h)
  have h0 := hw.ne_zero hv
  intro h
  have h2 := hw.ne hv (j - i) (by omega) (by omega)
  rw [show j = i + (j - i) by omega, pow_add'] at h
  have hpi : F p (rootN p (2 ^ k)) ^ i ≠ 0 := pw_ne hv h0 i
  have h3 : F p (s % p) * (F p (rootN p (2 ^ k)) ^ i * (F p (rootN p (2 ^ k)) ^ (j - i) - 1)) = 0 := by grind
  rcases noZD hv h3 with e | e
  · exact hs' e
  · rcases noZD hv e with e | e
    · exact hpi e
    · exact h2 (by grind)
theorem rdom_pair (hv : vld p = true) (hk : (p - 1) % 2 ^ k = 0) {s : Nat} (hs : s % p ≠ 0) : (rdom p (s % p) (rootN p (2 ^ k)) (2 ^ k)).Pairwise fun a b => F p a ≠ F p b := by
  rw [List.pairwise_iff_getElem]
  intro i j hi hj hij
  unfold rdom at hi hj ⊢
  rw [tab_len] at hi hj
  have g : ∀ m (h : m < (tab (2 ^ k) (dmK p (s % p) (rootN p (2 ^ k)))).length), (tab (2 ^ k) (dmK p (s % p) (rootN p (2 ^ k))))[m] = dmK p (s % p) (rootN p (2 ^ k)) m := fun m h => by
    have := tab_get (2 ^ k) (dmK p (s % p) (rootN p (2 ^ k))) m (by rw [tab_len] at h; exact h)
    rw [List.getD_eq_getElem?_getD, List.getElem?_eq_getElem h] at this
    exact this
  rw [g, g]
  exact rdom_ne hv hk hs hij hj
theorem rdom_diff (hv : vld p = true) (hk : (p - 1) % 2 ^ k = 0) {s : Nat} (hs : s % p ≠ 0) : ((rdom p (s % p) (rootN p (2 ^ k)) (2 ^ k)).map (fred p)).Nodup := by
  rw [List.nodup_iff_pairwise_ne, List.pairwise_map]
  refine (rdom_pair hv hk hs).imp ?_
  intro a b hab e
  apply hab
  rw [← F_fred hv a, e, F_fred hv]
theorem sol_interp (hv : vld p = true) (hk : (p - 1) % 2 ^ k = 0) {n s : Nat} {v : List Nat} (hn : n = 2 ^ k) (hl : v.length = n) (hs : s % p ≠ 0) :
    (elimE p (augK p (powM p (rdom p (s % p) (rootN p n) n)) v n) n).2.1 = List.range n ∧ solR n (elimE p (augK p (powM p (rdom p (s % p) (rootN p n) n)) v n) n).1 = tint p k v s (rootN p n) n := by
  have hbd := vld_bd hv
  have hdl : (rdom p (s % p) (rootN p n) n).length = n := tab_len _ _
  obtain ⟨D, hD⟩ : ∃ D, D = rdom p (s % p) (rootN p n) n := ⟨_, rfl⟩
  rw [← hD] at hdl ⊢
  have hpl : (powM p D).length = n := by rw [powM_len, hdl]
  have hrow : ∀ i, i < (powM p D).length → ((powM p D).getD i []).length = n := fun i hi => by
    rw [powM_get (by rw [← powM_len p]; exact hi)]; simp [hdl]
  have hred := augK_red (b := v) hv hpl hrow
  have hgl : ∀ i, i < n → (augK p (powM p D) v n).getD i [] = ((List.range n).map (gsK p (D.getD i 0))).map (fred p) ++ [fred p (v.getD i 0)] := fun i hi => by
    rw [augK_get (by omega), if_pos hi, powM_get (by omega), hdl]
  have hcol : ∀ i, i < n → ∀ j, j < n → F p (((augK p (powM p D) v n).getD i []).getD j 0) = F p (D.getD i 0) ^ j := fun i hi j hj => by
    rw [hgl i hi, List.getD_eq_getElem?_getD, List.getElem?_append_left (by simp; exact hj)]
    simp only [List.getElem?_map, List.getElem?_range hj, Option.map_some, Option.getD_some]
    rw [F_fred hv, F_gsK]
  have hlast : ∀ i, i < n → ((augK p (powM p D) v n).getD i []).getD n 0 = fred p (v.getD i 0) := fun i hi => by
    rw [hgl i hi, List.getD_eq_getElem?_getD, List.getElem?_append_right (by simp)]; simp
  have hal : (augK p (powM p D) v n).length = n := by rw [augK_len, hpl]
  have hE := Ech.all hv (W := n + 1) hred (by omega) (fun y hy hz => by
    rw [hal] at hy
    have hf : (y : S p) = zeroS := by
      refine roots hv D y (fun t ht => hy t (by omega)) (fun x hx => ?_) (by rw [hD, hn]; exact rdom_pair hv hk hs)
      obtain ⟨i, hi, rfl⟩ := List.mem_iff_getElem.1 hx
      have hi' : i < n := by omega
      have h1 := hz i (by omega)
      have h2 : dt ((augK p (powM p D) v n).getD i []) y (n + 1) = dt ((augK p (powM p D) v n).getD i []) y n := dt_stop (c := n) (fun j hj => hy j hj) 1
      rw [hdl, show D[i] = D.getD i 0 from by simp [List.getD, hi]]
      exact (dt_pow y (hcol i hi')).symm.trans (h2.symm.trans h1)
    intro j _
    rw [show y j = (y : S p) j from rfl, hf]; rfl) n (by omega)
  refine ⟨hE.piv, ?_⟩
  have hlen : (elimE p (augK p (powM p D) v n) n).1.length = n := by rw [hE.len, hal]
  have htl : (tint p k v s (rootN p n) n).length = n := tab_len _ _
  refine list_ext_F (p := p) (n := n) (tab_len _ _) htl (fun t => tab_lt (by omega) (fun t _ => hE.red.lt _ _) t) (fun t => tab_lt (by omega) (fun t _ => fmul_lt hv) t) fun t ht => ?_
  unfold solR
  rw [tab_get _ _ _ ht]
  refine hE.solves hal (x := cf p (tint p k v s (rootN p n) n)) (fun i hi => ?_) t ht
  rw [hlast i hi]
  refine (dt_pow _ (hcol i hi)).trans ?_
  have hv2 := int_value hv hk v (by rw [hl, hn]) s hs i (by rw [← hn]; exact hi)
  rw [← int_same hv hk v (by rw [hl, hn]) s] at hv2
  rw [← hv2, F_horner hv]
  have hDi : D.getD i 0 = dmK p (s % p) (rootN p (2 ^ k)) i := by
    rw [hD, ← hn]; unfold rdom; exact tab_get _ _ _ hi
  rw [hDi]
  subst hn
  rw [show (tint p k v s (rootN p (2 ^ k)) (2 ^ k)).length = 2 ^ k from tab_len _ _]
omit [NeZero p] in
theorem iout_red (hv : vld p = true) (xs ys : List Nat) : ∀ k, iout p xs (ys.map (fred p)) k = iout p xs ys k
  | 0 => rfl
  | i + 1 => by
    have e : ∀ b, fdiv p ((ys.map (fred p)).getD i 0) b = fdiv p (ys.getD i 0) b := fun b => by
      unfold fdiv
      rw [map_getD _ (fred_zero p)]
      unfold fmul fred
      rw [if_pos hv, if_pos hv, if_pos hv, Nat.mod_mul_mod]
    show irow p (iout p xs (ys.map (fred p)) i) _ _ _ = irow p (iout p xs ys i) _ _ _
    rw [iout_red hv xs ys i, e]
theorem poly_interp (hv : vld p = true) (hk : (p - 1) % 2 ^ k = 0) {n s : Nat} {v : List Nat} (hn : n = 2 ^ k) (hl : v.length = n) (hs : s % p ≠ 0) :
    pinter p (rdom p (s % p) (rootN p n) n) v = trimP p (tint p k v s (rootN p n) n) := by
  have hdl : (rdom p (s % p) (rootN p n) n).length = n := tab_len _ _
  have htl : (tint p k v s (rootN p n) n).length = n := tab_len _ _
  have hd : Diff p (rdom p (s % p) (rootN p n) n) := (diff_nodup hv _).2 (by rw [hn]; exact rdom_diff hv hk hs)
  rw [← restores hv _ _ hd (by rw [hdl]; exact Nat.le_trans (trimP_le _ _) (by omega))]
  have hm : (rdom p (s % p) (rootN p n) n).map (fun x => horner p x (tint p k v s (rootN p n) n)) = v.map (fred p) := by
    apply List.ext_getElem
    · simp [hdl, hl]
    · intro i h1 h2
      have hi : i < n := by simpa [hdl] using h1
      rw [List.getElem_map, List.getElem_map]
      have hv2 := int_value hv hk v (by rw [hl, hn]) s hs i (by rw [← hn]; exact hi)
      rw [← int_same hv hk v (by rw [hl, hn]) s, ← hn] at hv2
      have e1 : (rdom p (s % p) (rootN p n) n)[i]'(by omega) = dmK p (s % p) (rootN p n) i := by
        have := tab_get n (dmK p (s % p) (rootN p n)) i hi
        unfold rdom
        rw [List.getD_eq_getElem?_getD, List.getElem?_eq_getElem (by rw [tab_len]; exact hi)] at this
        exact this
      rw [e1, hv2]
      simp [List.getD, show i < v.length by omega]
  rw [hm]
  unfold pinter
  rw [iout_red hv]
end
end Q
end Go.Proofs.Ytcnbinjoeilfgaa
