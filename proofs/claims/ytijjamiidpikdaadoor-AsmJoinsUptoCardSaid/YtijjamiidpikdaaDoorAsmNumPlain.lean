/-
  Which texts are numbers' texts: the plain law. Conditions: none.
-/
import Derived.Test.YtijjamiidpikdaaDoorAsmPlain
namespace Go.Proofs.YtijjamiidpikdaaDoor.Asm

theorem digit_back {c : UInt8} (h : isDig c = true) : UInt8.ofNat (48 + (c.toNat - 48) % 10) = c := by
  have := of_decide_eq_true h
  rw [show 48 + (c.toNat - 48) % 10 = c.toNat by omega]
  simp
/-- figures without a naught ahead are their number's -/
theorem dg_of_val (k : Nat) : ∀ t : List UInt8, t.length = k + 1 → (∀ c ∈ t, isDig c = true) → t.head? ≠ some 48 → dg (val t) = t ∧ val t ≠ 0 := by
  induction k with
  | zero =>
    intro t hl hd hh
    match t, hl with
    | [c], _ =>
      have hc := hd c (by simp)
      have hc2 := of_decide_eq_true hc
      have hne : c.toNat ≠ 48 := fun e => hh (by simp; exact UInt8.toNat_inj.1 (by simpa using e))
      have hv : val [c] = c.toNat - 48 := by simp [val]
      rw [hv]
      refine ⟨?_, by omega⟩
      rw [dg_step (by omega), show (c.toNat - 48) / 10 = 0 by omega, dg_zero, digit_back hc]
      rfl
  | succ k ih =>
    intro t hl hd hh
    have hne : t ≠ [] := fun e => by rw [e] at hl; simp at hl
    obtain ⟨p, c, rfl⟩ : ∃ p c, t = p ++ [c] := ⟨t.dropLast, t.getLast hne, (List.dropLast_concat_getLast hne).symm⟩
    have hpl : p.length = k + 1 := by simp at hl; omega
    have hph : p.head? ≠ some 48 := by
      cases p with
      | nil => simp at hpl
      | cons x q => simpa using hh
    obtain ⟨e1, e2⟩ := ih p hpl (fun x hx => hd x (by simp [hx])) hph
    have hc := hd c (by simp)
    have hc2 := of_decide_eq_true hc
    rw [val_snoc]
    refine ⟨?_, by omega⟩
    rw [dg_step (by omega), show (10 * val p + (c.toNat - 48)) / 10 = val p by omega, e1, show (10 * val p + (c.toNat - 48)) % 10 = (c.toNat - 48) % 10 by omega, digit_back hc]
theorem figN_of_val {t : List UInt8} (hn : t ≠ []) (hd : ∀ c ∈ t, isDig c = true) (h : t.length = 1 ∨ t.head? ≠ some 48) : figN (val t) = t := by
  by_cases hh : t.head? = some 48
  · have h1 : t.length = 1 := h.elim id (fun h => absurd hh h)
    match t, h1, hh with
    | [c], _, hh =>
      simp at hh
      subst hh
      rfl
  · obtain ⟨k, hk⟩ : ∃ k, t.length = k + 1 := ⟨t.length - 1, by have := List.length_pos_iff.2 hn; omega⟩
    obtain ⟨e1, e2⟩ := dg_of_val k t hk hd hh
    unfold figN
    rw [if_neg e2, e1]
/-- a number's figures have no naught ahead -/
theorem dg_head (m : Nat) : m ≠ 0 → (dg m).head? ≠ some 48 ∧ dg m ≠ [] := by
  induction m using Nat.strongRecOn with
  | ind m ih =>
    intro h
    rw [dg_step h]
    by_cases h0 : m / 10 = 0
    · rw [h0, dg_zero]
      refine ⟨?_, by simp⟩
      simp only [List.nil_append, List.head?_cons, ne_eq, Option.some.injEq]
      intro e
      have := congrArg UInt8.toNat e
      simp at this
      omega
    · obtain ⟨e1, e2⟩ := ih (m / 10) (by omega) h0
      refine ⟨?_, by simp⟩
      cases hd : dg (m / 10) with
      | nil => exact absurd hd e2
      | cons x q => rw [hd] at e1; simpa using e1
theorem figN_head (m : Nat) : (figN m).length = 1 ∨ (figN m).head? ≠ some 48 := by
  unfold figN
  split
  · exact .inl rfl
  · rename_i h; exact .inr (dg_head m h).1
/-- is a naught ahead -/
def zeroAhead (t : List UInt8) : Bool := decide (1 < t.length) && (t.head? == some 48)
/-- what the reference takes for a number -/
def numR (t : List UInt8) (minus : Bool) : Int × Bool :=
  if t = [] ∨ 5 < t.length ∨ zeroAhead t = true then (0, false)
  else if t.all isDig = true then (if minus = true then (-(val t : Int), ((val t : Int) != 0)) else ((val t : Int), true))
  else (0, false)
theorem numR_eq (l : List UInt8) : numR (cutM l).1 (cutM l).2 = numV l := by
  have hcut : l = if (cutM l).2 = true then 45 :: (cutM l).1 else (cutM l).1 := by
    cases l with
    | nil => rfl
    | cons c t =>
      by_cases h : c = 45
      · subst h; simp [cutM]
      · simp [cutM, h]
  have hno : (cutM l).2 = false → (cutM l).1.head? ≠ some 45 := by
    cases l with
    | nil => intro _; simp [cutM]
    | cons c t =>
      by_cases h : c = 45
      · subst h; intro h; simp [cutM] at h
      · intro _; simp [cutM, h]
  unfold numV numR numT
  generalize (cutM l).1 = t at hcut hno ⊢
  generalize (cutM l).2 = mi at hcut hno ⊢
  by_cases h0 : t = []
  · rw [if_pos (.inl h0), if_pos (.inl h0)]
  by_cases h5 : 5 < t.length
  · rw [if_pos (.inr (.inl h5)), if_pos (.inr h5)]
  rw [if_neg (by rintro (h | h); exact h0 h; exact h5 h) (c := t = [] ∨ 5 < t.length)]
  by_cases ha : t.all isDig = true
  · have had : ∀ c ∈ t, isDig c = true := fun c hc => List.all_eq_true.1 ha c hc
    simp only [if_pos ha]
    have hlen : t.length ≠ 0 := by simpa using h0
    have f0 : figs ((val t : Nat) : Int) = figN (val t) := by
      unfold figs
      rw [if_neg (by omega), show ((val t : Int)).natAbs = val t by omega]
    have f1 : val t ≠ 0 → figs (-((val t : Nat) : Int)) = 45 :: figN (val t) := fun h => by
      unfold figs
      rw [if_pos (by omega), show (-(val t : Int)).natAbs = val t by omega]
    have f2 : val t = 0 → figs (-((val t : Nat) : Int)) ≠ l ∨ mi = false := fun h => by
      cases mi with
      | false => exact .inr rfl
      | true =>
        refine .inl (fun e => ?_)
        simp only [if_true] at hcut
        rw [h, hcut] at e
        exact absurd e (by simp [figs, figN])
    by_cases hz : zeroAhead t = true
    · rw [if_pos (.inr (.inr hz))]
      have hz2 : 1 < t.length ∧ t.head? = some 48 := by
        unfold zeroAhead at hz
        simpa using hz
      have hne : figN (val t) ≠ t := fun e => by
        have := figN_head (val t)
        rw [e] at this
        rcases this with h | h
        · omega
        · exact h hz2.2
      cases mi with
      | false =>
        simp only [Bool.false_eq_true, if_false] at hcut ⊢
        rw [if_neg]
        rw [f0, hcut]
        exact hne
      | true =>
        simp only [if_true] at hcut ⊢
        rw [if_neg]
        intro e
        by_cases hv : val t = 0
        · rcases f2 hv with h | h
          · exact h e
          · cases h
        · rw [f1 hv, hcut] at e
          injection e with _ e
          exact hne e
    · rw [if_neg (by rintro (h | h | h); exact h0 h; exact h5 h; exact hz h)]
      have hh : t.length = 1 ∨ t.head? ≠ some 48 := by
        unfold zeroAhead at hz
        by_cases h1 : t.length = 1
        · exact .inl h1
        · refine .inr (fun e => hz ?_)
          rw [e]
          simp
          omega
      have hF := figN_of_val h0 had hh
      cases mi with
      | false =>
        simp only [Bool.false_eq_true, if_false] at hcut ⊢
        rw [if_pos (by rw [f0, hF, hcut])]
      | true =>
        simp only [if_true] at hcut ⊢
        by_cases hv : val t = 0
        · rw [if_neg (by rcases f2 hv with h | h; exact h; cases h), hv]
          rfl
        · rw [if_pos (by rw [f1 hv, hF, hcut])]
          simp [hv]
  · rw [if_neg ha, if_neg ha]
    split <;> rfl

end Go.Proofs.YtijjamiidpikdaaDoor.Asm
