/- Cm3 Cm4, merged. -/
import Derived.Test.YtgnngifnoaagjaaGC
import Derived.Test.YtgnngifnoaagjaaCd7
/- The document's Contains answers as code.Contains. -/
namespace Go.Proofs.Ytgnngifnoaagjaa
/-- The divided differences that the document computes, after order o. -/
def ddO (p : Nat) (X D : Nat → Nat) : Nat → Nat → Nat
  | 0, t => D t
  | o + 1, t => if o + 1 ≤ t then fmul p (fsub p (ddO p X D o t) (ddO p X D o (t - 1))) (finv p (fsub p (X t) (X (t - (o + 1))))) else ddO p X D o t
theorem ddO_stay (p : Nat) (X D : Nat → Nat) (t : Nat) : ∀ d, ddO p X D (t + d) t = ddO p X D t t
  | 0 => rfl
  | d + 1 => by
    show (if t + d + 1 ≤ t then _ else _) = _
    rw [if_neg (by omega)]; exact ddO_stay p X D t d
theorem ddO_lt {p : Nat} (hv : vld p = true) (X D : Nat → Nat) (hD : ∀ t, D t < p) : ∀ o t, ddO p X D o t < p
  | 0, t => hD t
  | o + 1, t => by
    show (if o + 1 ≤ t then _ else _) < p
    split
    · exact Q.fmul_lt hv
    · exact ddO_lt hv X D hD o t
def rCon (p : Nat) (n k : Int) (l : List Nat) : Bool :=
  cval p n k && (decide ((l.length : Int) = n) && decide (∀ t, t < n.toNat → k.toNat ≤ t → ddO p (fun i => (cpts p n k).getD i 0) (fun i => fred p (l.getD i 0)) (n.toNat - 1) t = 0))
theorem con_same (p : Nat) (n k : Int) (l : List Nat) : cCon p n k l = rCon p n k l := by
  unfold cCon rCon
  cases hc : cval p n k
  · rfl
  by_cases hl : (l.length : Int) = n
  case neg => rw [decide_eq_false hl]; rfl
  rw [decide_eq_true hl, Bool.true_and, Bool.true_and, Bool.true_and, Bool.true_and, decide_eq_decide]
  obtain ⟨hv, e, K, N, he, hN, rfl, rfl, hK1, hK2, hNp, hd, ho⟩ := cval_spec hc
  haveI := Q.nz_vld hv
  rw [Int.toNat_natCast, Int.toNat_natCast]
  have hl2 : l.length = N := by omega
  have hpt : ∀ i, i < N → (cpts p N K).getD i 0 = dmK p (gent p) (rootN p N) i := fun i hi => by
    unfold cpts; rw [if_pos hc, Int.toNat_natCast, tab_get _ _ _ hi]
  subst hN
  have hx : ∀ i j, i < j → j < 2 ^ e → Q.F p ((cpts p ((2 ^ e : Nat) : Int) K).getD i 0) ≠ Q.F p ((cpts p ((2 ^ e : Nat) : Int) K).getD j 0) := fun i j h1 h2 => by
    rw [hpt i (by omega), hpt j h2]; exact Q.pts_ne hv hd h1 h2
  have hDD : Q.DD (p := p) (2 ^ e) (fun i => (cpts p ((2 ^ e : Nat) : Int) K).getD i 0) (fun i => Q.F p (l.getD i 0)) (fun o t => Q.F p (ddO p (fun i => (cpts p ((2 ^ e : Nat) : Int) K).getD i 0) (fun i => fred p (l.getD i 0)) o t)) := by
    refine ⟨fun t _ => Q.F_fred hv _, fun o t h1 h2 => ?_⟩
    refine ⟨Q.F p (finv p (fsub p ((cpts p ((2 ^ e : Nat) : Int) K).getD t 0) ((cpts p ((2 ^ e : Nat) : Int) K).getD (t - (o + 1)) 0))), ?_, ?_⟩
    · have hne : Q.F p (fsub p ((cpts p ((2 ^ e : Nat) : Int) K).getD t 0) ((cpts p ((2 ^ e : Nat) : Int) K).getD (t - (o + 1)) 0)) ≠ 0 := by
        rw [Q.F_fsub hv]
        intro h
        exact hx (t - (o + 1)) t (by omega) h2 (by grind)
      have := Q.F_finv hv hne
      rw [Q.F_fsub hv] at this
      grind
    · show Q.F p (if o + 1 ≤ t then _ else _) = _
      rw [if_pos h1, Q.F_fmul hv, Q.F_fsub hv]
  have hnf : Q.Nf p (cpoly p (2 ^ e) l) := Q.Nf.trim hv _
  have hcf : Q.cf p (cpoly p (2 ^ e) l) = Q.cf p (rintl p l (gent p) (rootN p (2 ^ e)) (2 ^ e)) := Q.cf_trimP hv _
  have hrl : (rintl p l (gent p) (rootN p (2 ^ e)) (2 ^ e)).length = 2 ^ e := by unfold rintl; rw [tab_len]
  have hdeg : Q.DegLt (Q.cf p (cpoly p (2 ^ e) l)) (2 ^ e) := by rw [hcf]; have := Q.cf_deg (p := p) (rintl p l (gent p) (rootN p (2 ^ e)) (2 ^ e)); rw [hrl] at this; exact this
  have key := Q.dd_deg hv (K := K) hDD hx hdeg (fun j hj => by
    have h1 := Q.int_value hv hd l hl2 (gent p) (by rw [gent_mod hv]; have := (gent_bd hv).1; omega) j hj
    have h2 := congrArg (Q.F p) h1
    rw [Q.F_horner hv, hrl, Q.F_fred hv, gent_mod hv] at h2
    rw [hcf, hpt j hj]; exact h2)
  constructor
  · intro h t h1 h2
    have h3 := key.1 ((Q.cf_deg _).mono (by omega)) t h2 h1
    obtain ⟨d, hd2⟩ : ∃ d, 2 ^ e - 1 = t + d := ⟨2 ^ e - 1 - t, by omega⟩
    rw [hd2, ddO_stay]
    have := Q.F_eq_zero.1 h3
    rw [Nat.mod_eq_of_lt (ddO_lt hv _ _ (fun _ => Q.fred_lt hv) _ _)] at this
    exact this
  · intro h
    have h3 := key.2 fun t h1 h2 => by
      have h4 := h t h2 h1
      obtain ⟨d, hd2⟩ : ∃ d, 2 ^ e - 1 = t + d := ⟨2 ^ e - 1 - t, by omega⟩
      rw [hd2, ddO_stay] at h4
      show Q.F p _ = 0
      rw [h4]; exact Q.F_zero
    have := hnf.len hv h3
    omega
end Go.Proofs.Ytgnngifnoaagjaa

/- Rows of numbers, and their combination. -/
namespace Go.Proofs.Ytgnngifnoaagjaa
open Go.RowKit
/-- A slice of slices of numbers that can be read. -/
def RdR (w : World) (a : Option Addr) (rows : List (List Nat)) : Prop :=
  ∃ L : List (Option Addr × Nat × Nat), RdV w a L ∧ L.length = rows.length ∧ ∀ i, i < rows.length → (L.getD i (none, 0, 0)).2.1 = (rows.getD i []).length ∧ Rd w (L.getD i (none, 0, 0)).1 (rows.getD i [])
theorem RdR.ext {w w' : World} {a : Option Addr} {rows : List (List Nat)} (h : RdR w a rows) (hx : Ext w w') : RdR w' a rows := by
  obtain ⟨L, h1, h2, h3⟩ := h
  exact ⟨L, h1.ext hx, h2, fun i hi => ⟨(h3 i hi).1, (h3 i hi).2.ext hx⟩⟩
theorem RdR.at {w : World} {a : Option Addr} {rows : List (List Nat)} (h : RdR w a rows) (hl : 0 < rows.length) :
    ∃ b off, a = some ⟨b, off, none⟩ ∧ ∀ i, i < rows.length → ∃ ar cr, w.cell? ⟨b, off + i, none⟩ = some (.slice ar (rows.getD i []).length cr) ∧ Rd w ar (rows.getD i []) := by
  obtain ⟨L, h1, h2, h3⟩ := h
  obtain ⟨b, off, ha, hc⟩ := h1.at (by omega)
  refine ⟨b, off, ha, fun i hi => ⟨(L.getD i (none, 0, 0)).1, (L.getD i (none, 0, 0)).2.2, ?_, (h3 i hi).2⟩⟩
  rw [hc i (by omega), (h3 i hi).1]
/-- Position j of the combination of the first i rows. -/
def fk (p : Nat) (rows : List (List Nat)) (cs : List Nat) : Nat → Nat → Nat
  | 0, _ => 0
  | i + 1, j => fadd p (fk p rows cs i j) (fmul p ((rows.getD i []).getD j 0) (cs.getD i 0))
def allLen (rows : List (List Nat)) : Bool := decide (∀ i, i < rows.length → (rows.getD i []).length = (rows.getD 0 []).length)
def cFold (p : Nat) (rows : List (List Nat)) (cs : List Nat) : List Nat :=
  if vld p = true ∧ rows.length ≠ 0 ∧ rows.length = cs.length ∧ allLen rows = true then tab (rows.getD 0 []).length (fk p rows cs rows.length) else []
end Go.Proofs.Ytgnngifnoaagjaa
