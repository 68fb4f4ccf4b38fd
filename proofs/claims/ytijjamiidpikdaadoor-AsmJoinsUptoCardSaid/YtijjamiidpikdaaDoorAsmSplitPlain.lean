/-
  What stands between blanks: the plain law. Conditions: none.
-/
import Derived.Test.YtijjamiidpikdaaDoorAsmLinePlain
namespace Go.Proofs.YtijjamiidpikdaaDoor.Asm

/-- what stands between blanks -/
def splitW : List UInt8 → List (List UInt8)
  | [] => [[]]
  | c :: t => if c = 32 then [] :: splitW t else match splitW t with
    | [] => [[c]]
    | w :: ws => (c :: w) :: ws
theorem splitW_ne (l : List UInt8) : splitW l ≠ [] := by
  cases l with
  | nil => simp [splitW]
  | cons c t =>
    unfold splitW
    split
    · simp
    · split <;> simp
/-- a word, a blank, the rest -/
theorem splitW_word (w t : List UInt8) (hw : ∀ c ∈ w, c ≠ 32) : splitW (w ++ 32 :: t) = w :: splitW t := by
  induction w with
  | nil => show (if (32 : UInt8) = 32 then [] :: splitW t else _) = _; rw [if_pos rfl]
  | cons c w ih =>
    have h := ih (fun x hx => hw x (by simp [hx]))
    show (if c = 32 then [] :: splitW (w ++ 32 :: t) else match splitW (w ++ 32 :: t) with | [] => [[c]] | v :: vs => (c :: v) :: vs) = _
    rw [if_neg (hw c (by simp)), h]
/-- a word alone -/
theorem splitW_last (w : List UInt8) (hw : ∀ c ∈ w, c ≠ 32) : splitW w = [w] := by
  induction w with
  | nil => rfl
  | cons c w ih =>
    have h := ih (fun x hx => hw x (by simp [hx]))
    show (if c = 32 then [] :: splitW w else match splitW w with | [] => [[c]] | v :: vs => (c :: v) :: vs) = _
    rw [if_neg (hw c (by simp)), h]
/-- with blanks between them again -/
def joinW : List (List UInt8) → List UInt8
  | [] => []
  | w :: ws => w ++ ws.flatMap (fun v => 32 :: v)
theorem joinW_split (l : List UInt8) : joinW (splitW l) = l := by
  induction l with
  | nil => rfl
  | cons c t ih =>
    unfold splitW
    split
    · rename_i h
      subst h
      have hne := splitW_ne t
      cases hs : splitW t with
      | nil => exact absurd hs hne
      | cons w ws =>
        rw [hs] at ih
        show [] ++ ((32 :: w) ++ ws.flatMap (fun v => 32 :: v)) = 32 :: t
        rw [← ih]
        rfl
    · have hne := splitW_ne t
      cases hs : splitW t with
      | nil => exact absurd hs hne
      | cons w ws =>
        rw [hs] at ih
        show (c :: w) ++ ws.flatMap (fun v => 32 :: v) = c :: t
        rw [← ih]
        rfl
/-- no word holds a blank -/
theorem splitW_no (l : List UInt8) : ∀ w ∈ splitW l, ∀ c ∈ w, c ≠ 32 := by
  induction l with
  | nil => intro w hw; simp [splitW] at hw; subst hw; intro c hc; cases hc
  | cons c t ih =>
    intro w hw
    unfold splitW at hw
    split at hw
    · rcases List.mem_cons.1 hw with rfl | hw
      · intro c hc; cases hc
      · exact ih w hw
    · rename_i hc
      cases hs : splitW t with
      | nil => exact absurd hs (splitW_ne t)
      | cons v vs =>
        rw [hs] at hw ih
        rcases List.mem_cons.1 hw with rfl | hw
        · intro x hx
          rcases List.mem_cons.1 hx with rfl | hx
          · exact hc
          · exact ih v (by simp) x hx
        · exact ih w (by simp [hw])
theorem splitW_join (w : List UInt8) (ws : List (List UInt8)) : (∀ v ∈ w :: ws, ∀ c ∈ v, c ≠ 32) → splitW (joinW (w :: ws)) = w :: ws := by
  induction ws generalizing w with
  | nil => intro h; show splitW (w ++ []) = [w]; rw [List.append_nil]; exact splitW_last w (h w (by simp))
  | cons v vs ih =>
    intro h
    have e : joinW (w :: v :: vs) = w ++ 32 :: joinW (v :: vs) := by simp [joinW]
    rw [e, splitW_word w _ (h w (by simp)), ih v (fun x hx => h x (by simp [hx]))]

end Go.Proofs.YtijjamiidpikdaaDoor.Asm
