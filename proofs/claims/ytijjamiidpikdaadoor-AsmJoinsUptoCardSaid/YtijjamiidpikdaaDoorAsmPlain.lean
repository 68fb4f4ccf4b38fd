/-
  Numbers' texts: the plain law, with no program in sight. Conditions: none.
-/
import Derived.Test.YtijjamiidpikdaaDoorKit
namespace Go.Proofs.YtijjamiidpikdaaDoor.Asm

/-- a number's figures, none of naught -/
def dg (m : Nat) : List UInt8 := if _h : m = 0 then [] else dg (m / 10) ++ [UInt8.ofNat (48 + m % 10)]
termination_by m
decreasing_by omega
theorem dg_zero : dg 0 = [] := by rw [dg]; rfl
theorem dg_step {m : Nat} (h : m ≠ 0) : dg m = dg (m / 10) ++ [UInt8.ofNat (48 + m % 10)] := by rw [dg, dif_neg h]
def figN (m : Nat) : List UInt8 := if m = 0 then [48] else dg m
/-- a number's text -/
def figs (n : Int) : List UInt8 := if n < 0 then 45 :: figN n.natAbs else figN n.natAbs
theorem figN_step (m : Nat) : figN m = dg (m / 10) ++ [UInt8.ofNat (48 + m % 10)] := by
  unfold figN
  split
  · rename_i h; subst h; rw [dg_zero]; rfl
  · rename_i h; exact dg_step h
theorem dg_len (k : Nat) : ∀ m : Nat, m < 10 ^ k → (dg m).length ≤ k := by
  induction k with
  | zero => intro m h; have : m = 0 := by simpa using h
            subst this; rw [dg_zero]; simp
  | succ k ih =>
    intro m h
    by_cases h0 : m = 0
    · subst h0; rw [dg_zero]; simp
    · rw [dg_step h0, List.length_append]
      have := ih (m / 10) (by rw [Nat.pow_succ] at h; omega)
      simp
      omega
theorem figN_len {m : Nat} (h : m ≤ 1099511627776) : (figN m).length ≤ 14 := by
  unfold figN
  split
  · simp
  · have := dg_len 13 m (by omega)
    omega
def isE : Value → Nat
  | .string s => if s.size = 0 then 1 else 0
  | _ => 0
theorem str_cons (x : UInt8) (t : List UInt8) : (⟨#[x]⟩ : ByteArray) ++ ⟨t.toArray⟩ = ⟨(x :: t).toArray⟩ := by
  apply ByteArray.ext
  rw [ByteArray.data_append]
  simp

def isDig (c : UInt8) : Bool := decide (48 ≤ c.toNat ∧ c.toNat ≤ 57)
/-- what figures come to -/
def val (l : List UInt8) : Nat := l.foldl (fun n c => 10 * n + (c.toNat - 48)) 0
theorem val_nil : val [] = 0 := rfl
theorem val_snoc (l : List UInt8) (c : UInt8) : val (l ++ [c]) = 10 * val l + (c.toNat - 48) := by simp [val]
theorem val_grow (l : List UInt8) : ∀ n : Nat, (∀ c ∈ l, isDig c = true) → l.foldl (fun n c => 10 * n + (c.toNat - 48)) n + 1 ≤ (n + 1) * 10 ^ l.length := by
  induction l with
  | nil => intro n _; simp
  | cons c l ih =>
    intro n h
    have h1 := ih (10 * n + (c.toNat - 48)) (fun c hc => h c (by simp [hc]))
    have h2 := of_decide_eq_true (h c (by simp))
    rw [List.foldl_cons, List.length_cons, Nat.pow_succ]
    refine Nat.le_trans h1 ?_
    rw [Nat.mul_comm (10 ^ l.length) 10, ← Nat.mul_assoc]
    exact Nat.mul_le_mul_right _ (by omega)
theorem val_lt (l : List UInt8) (h : ∀ c ∈ l, isDig c = true) : val l < 10 ^ l.length := by
  have := val_grow l 0 h
  unfold val
  omega
/-- a text without its minus; was there one -/
def cutM : List UInt8 → List UInt8 × Bool
  | [] => ([], false)
  | c :: t => if c = 45 then (t, true) else (c :: t, false)
def numT (t : List UInt8) (minus : Bool) (l : List UInt8) : Int × Bool :=
  if t = [] ∨ 5 < t.length then (0, false)
  else if (t.all isDig) = true then (if figs (if minus = true then -(val t : Int) else (val t : Int)) = l then (if minus = true then -(val t : Int) else (val t : Int), true) else (0, false))
  else (0, false)
/-- a text's number; is it one -/
def numV (l : List UInt8) : Int × Bool := numT (cutM l).1 (cutM l).2 l

theorem numV_range (l : List UInt8) : -99999 ≤ (numV l).1 ∧ (numV l).1 ≤ 99999 ∧ ((numV l).2 = false → (numV l).1 = 0) := by
  unfold numV numT
  generalize (cutM l).1 = t
  generalize (cutM l).2 = mi
  split
  · simp
  · rename_i h5
    split
    · rename_i hd
      have hv : val t < 100000 := by
        have h1 := val_lt t (fun c hc => by rw [List.all_eq_true] at hd; exact hd c hc)
        have h2 : t.length ≤ 5 := by omega
        have h3 : 10 ^ t.length ≤ 10 ^ 5 := Nat.pow_le_pow_right (by omega) h2
        omega
      have hb : -99999 ≤ (if mi = true then -(val t : Int) else (val t : Int)) ∧ (if mi = true then -(val t : Int) else (val t : Int)) ≤ 99999 := by
        cases mi
        · rw [if_neg (by decide)]; omega
        · rw [if_pos rfl]; omega
      generalize (if mi = true then -(val t : Int) else (val t : Int)) = v at hb ⊢
      split
      · exact ⟨hb.1, hb.2, fun h => by cases h⟩
      · simp
    · simp

theorem dig_of (m : Nat) : isDig (UInt8.ofNat (48 + m % 10)) = true ∧ (UInt8.ofNat (48 + m % 10)).toNat - 48 = m % 10 := by
  have : (UInt8.ofNat (48 + m % 10)).toNat = 48 + m % 10 := by simp; omega
  unfold isDig
  rw [this]
  exact ⟨by simp; omega, by omega⟩
theorem dg_val (m : Nat) : val (dg m) = m ∧ ∀ c ∈ dg m, isDig c = true := by
  induction m using Nat.strongRecOn with
  | ind m ih =>
    by_cases h : m = 0
    · subst h; rw [dg_zero]; simp [val]
    · rw [dg_step h]
      obtain ⟨h1, h2⟩ := ih (m / 10) (by omega)
      obtain ⟨d1, d2⟩ := dig_of m
      refine ⟨by rw [val_snoc, h1, d2]; omega, fun c hc => ?_⟩
      rcases List.mem_append.1 hc with hc | hc
      · exact h2 c hc
      · rw [List.mem_singleton] at hc; subst hc; exact d1
theorem figN_val (m : Nat) : val (figN m) = m ∧ (∀ c ∈ figN m, isDig c = true) ∧ figN m ≠ [] := by
  rw [figN_step]
  obtain ⟨h1, h2⟩ := dg_val (m / 10)
  obtain ⟨d1, d2⟩ := dig_of m
  refine ⟨by rw [val_snoc, h1, d2]; omega, fun c hc => ?_, by simp⟩
  rcases List.mem_append.1 hc with hc | hc
  · exact h2 c hc
  · rw [List.mem_singleton] at hc; subst hc; exact d1
theorem figN_len5 {m : Nat} (h : m ≤ 99999) : (figN m).length ≤ 5 := by
  unfold figN
  split
  · simp
  · exact dg_len 5 m (by omega)
theorem cutM_fig (m : Nat) : cutM (figN m) = (figN m, false) := by
  obtain ⟨_, h2, h3⟩ := figN_val m
  cases hf : figN m with
  | nil => exact absurd hf h3
  | cons c t =>
    have := of_decide_eq_true (h2 c (by rw [hf]; simp))
    show (if c = 45 then (t, true) else (c :: t, false)) = (c :: t, false)
    rw [if_neg]
    intro e
    subst e
    simp at this
/-- a number's text tells it -/
theorem numV_figs {n : Int} (h0 : -99999 ≤ n) (h1 : n ≤ 99999) : numV (figs n) = (n, true) := by
  obtain ⟨v1, v2, v3⟩ := figN_val n.natAbs
  have hl := figN_len5 (m := n.natAbs) (by omega)
  have ha : (figN n.natAbs).all isDig = true := List.all_eq_true.2 v2
  have key : ∀ mi : Bool, (if mi = true then -((val (figN n.natAbs) : Nat) : Int) else ((val (figN n.natAbs) : Nat) : Int)) = n → numT (figN n.natAbs) mi (figs n) = (n, true) := fun mi e => by
    unfold numT
    rw [if_neg (by rintro (h | h); exact v3 h; omega), if_pos ha, e, if_pos rfl]
  by_cases hn : n < 0
  · have e : cutM (figs n) = (figN n.natAbs, true) := by
      unfold figs
      rw [if_pos hn]
      simp [cutM]
    unfold numV
    rw [e]
    exact key true (by rw [if_pos rfl, v1]; omega)
  · have e : cutM (figs n) = (figN n.natAbs, false) := by
      unfold figs
      rw [if_neg hn]
      exact cutM_fig _
    unfold numV
    rw [e]
    exact key false (by rw [if_neg (by decide), v1]; omega)
theorem figs_len {n : Int} (h0 : -99999 ≤ n) (h1 : n ≤ 99999) : 1 ≤ (figs n).length ∧ (figs n).length ≤ 6 := by
  have hl := figN_len5 (m := n.natAbs) (by omega)
  have h3 := (figN_val n.natAbs).2.2
  have : 1 ≤ (figN n.natAbs).length := by
    cases h : figN n.natAbs with
    | nil => exact absurd h h3
    | cons c t => simp
  unfold figs
  split
  · simp; omega
  · omega

end Go.Proofs.YtijjamiidpikdaaDoor.Asm
