/-
  Programs as texts: the plain law of printing and reading. Conditions: none.
-/
import Derived.Test.YtijjamiidpikdaaDoorAsmParsePlain
import Derived.Test.YtijjamiidpikdaaDoorIsaList
namespace Go.Proofs.YtijjamiidpikdaaDoor.Asm
open Go.Proofs.YtijjamiidpikdaaDoor.Isa

/-- a text's lines, and what stands behind the last line's end -/
def cutL : List UInt8 → List (List UInt8) × List UInt8
  | [] => ([], [])
  | c :: t => if c = 10 then ([] :: (cutL t).1, (cutL t).2) else match (cutL t).1 with
    | [] => ([], c :: (cutL t).2)
    | w :: ws => ((c :: w) :: ws, (cutL t).2)
theorem cutL_line (w t : List UInt8) (hw : ∀ c ∈ w, c ≠ 10) : cutL (w ++ 10 :: t) = (w :: (cutL t).1, (cutL t).2) := by
  induction w with
  | nil => show (if (10 : UInt8) = 10 then _ else _) = _; rw [if_pos rfl]
  | cons c w ih =>
    have h := ih (fun x hx => hw x (by simp [hx]))
    show (if c = 10 then ([] :: (cutL (w ++ 10 :: t)).1, (cutL (w ++ 10 :: t)).2) else match (cutL (w ++ 10 :: t)).1 with | [] => ([], c :: (cutL (w ++ 10 :: t)).2) | v :: vs => ((c :: v) :: vs, (cutL (w ++ 10 :: t)).2)) = _
    rw [if_neg (hw c (by simp)), h]
theorem cutL_last (w : List UInt8) (hw : ∀ c ∈ w, c ≠ 10) : cutL w = ([], w) := by
  induction w with
  | nil => rfl
  | cons c w ih =>
    have h := ih (fun x hx => hw x (by simp [hx]))
    show (if c = 10 then ([] :: (cutL w).1, (cutL w).2) else match (cutL w).1 with | [] => ([], c :: (cutL w).2) | v :: vs => ((c :: v) :: vs, (cutL w).2)) = _
    rw [if_neg (hw c (by simp)), h]
/-- the lines with their ends -/
def joinL (ls : List (List UInt8)) : List UInt8 := ls.flatMap fun w => w ++ [10]
theorem joinL_cut (s : List UInt8) : joinL (cutL s).1 ++ (cutL s).2 = s ∧ (∀ w ∈ (cutL s).1, ∀ c ∈ w, c ≠ 10) ∧ (∀ c ∈ (cutL s).2, c ≠ 10) := by
  induction s with
  | nil => exact ⟨rfl, (fun w hw => by cases hw), (fun c hc => by cases hc)⟩
  | cons c t ih =>
    obtain ⟨h1, h2, h3⟩ := ih
    unfold cutL
    by_cases hc : c = 10
    · rw [if_pos hc]
      subst hc
      refine ⟨by show (10 :: joinL (cutL t).1) ++ _ = _; rw [List.cons_append, h1], ?_, h3⟩
      intro w hw
      rcases List.mem_cons.1 hw with rfl | hw
      · intro c hc; cases hc
      · exact h2 w hw
    · rw [if_neg hc]
      cases hl : (cutL t).1 with
      | nil =>
        rw [hl] at h1
        refine ⟨by show c :: (cutL t).2 = _; rw [show (cutL t).2 = t from h1], (fun w hw => by cases hw), ?_⟩
        intro x hx
        rcases List.mem_cons.1 hx with rfl | hx
        · exact hc
        · exact h3 x hx
      | cons w ws =>
        rw [hl] at h1 h2
        refine ⟨by show c :: (joinL (w :: ws) ++ (cutL t).2) = _; rw [h1], ?_, h3⟩
        intro v hv
        rcases List.mem_cons.1 hv with rfl | hv
        · intro x hx
          rcases List.mem_cons.1 hx with rfl | hx
          · exact hc
          · exact h2 w (by simp) x hx
        · exact h2 v (by simp [hv])
theorem cutL_join (ls : List (List UInt8)) (r : List UInt8) (h1 : ∀ w ∈ ls, ∀ c ∈ w, c ≠ 10) (h2 : ∀ c ∈ r, c ≠ 10) : cutL (joinL ls ++ r) = (ls, r) := by
  induction ls with
  | nil => exact cutL_last r h2
  | cons w ws ih =>
    have e : joinL (w :: ws) ++ r = w ++ 10 :: (joinL ws ++ r) := by simp [joinL]
    rw [e, cutL_line w _ (h1 w (by simp)), ih (fun v hv => h1 v (by simp [hv]))]
theorem joinL_len (ls : List (List UInt8)) : ls.length ≤ (joinL ls).length := by
  induction ls with
  | nil => simp
  | cons w ws ih =>
    have e : joinL (w :: ws) = w ++ [10] ++ joinL ws := by simp [joinL]
    rw [e]
    simp only [List.length_append, List.length_cons, List.length_nil]
    omega
theorem cutL_count (s : List UInt8) : (cutL s).1.length ≤ s.length := by
  have h := (joinL_cut s).1
  have h2 := joinL_len (cutL s).1
  have h3 := congrArg List.length h
  rw [List.length_append] at h3
  omega

/-- what was taken, as an instruction -/
def insI : Nat × Int × Int × Int → Ins
  | (op, a, b, i) => ((op : Int), a, b, i)
/-- the program of lines, up to the first that is none; was there none -/
def prog : List (List UInt8) → List Ins × Bool
  | [] => ([], true)
  | x :: ls => match parseA x with
    | none => ([], false)
    | some i => (insI i :: (prog ls).1, (prog ls).2)
theorem prog_some {x : List UInt8} {i : Nat × Int × Int × Int} (h : parseA x = some i) (ls : List (List UInt8)) : prog (x :: ls) = (insI i :: (prog ls).1, (prog ls).2) := by
  show (match parseA x with | none => ([], false) | some i => (insI i :: (prog ls).1, (prog ls).2)) = _
  rw [h]
theorem prog_none {x : List UInt8} (h : parseA x = none) (ls : List (List UInt8)) : prog (x :: ls) = ([], false) := by
  show (match parseA x with | none => ([], false) | some i => (insI i :: (prog ls).1, (prog ls).2)) = _
  rw [h]
theorem prog_len (ls : List (List UInt8)) : (prog ls).1.length ≤ ls.length ∧ ((prog ls).2 = true → (prog ls).1.length = ls.length) := by
  induction ls with
  | nil => exact ⟨Nat.le_refl _, fun _ => rfl⟩
  | cons x ls ih =>
    cases h : parseA x with
    | none => rw [prog_none h]; exact ⟨Nat.zero_le _, fun h => by cases h⟩
    | some i => rw [prog_some h]; exact ⟨by simp only [List.length_cons]; omega, fun h2 => by simp only [List.length_cons]; rw [ih.2 h2]⟩
/-- what is read of a text: the program, how many lines, the error -/
def readL (s : List UInt8) : List Ins := if (prog (cutL s).1).2 = true ∧ (cutL s).2 = [] then (prog (cutL s).1).1 else []
def readN (s : List UInt8) : Nat := (prog (cutL s).1).1.length
def readE (s : List UInt8) : Int := if (prog (cutL s).1).2 = true ∧ (cutL s).2 = [] then 0 else 3
theorem readN_le (s : List UInt8) : readN s ≤ s.length := Nat.le_trans (prog_len _).1 (cutL_count s)
theorem readE_ok {s : List UInt8} (h : readE s = 0) : (prog (cutL s).1).2 = true ∧ (cutL s).2 = [] ∧ readL s = (prog (cutL s).1).1 := by
  unfold readE at h
  split at h
  · rename_i h2; exact ⟨h2.1, h2.2, if_pos h2⟩
  · cases h
theorem readE_two (s : List UInt8) : readE s = 0 ∨ readE s = 3 := by
  unfold readE
  split
  · exact .inl rfl
  · exact .inr rfl

/-- how far the reading has come: what has been taken, what is left -/
def RP (s : List UInt8) (k : List Ins) (t : List UInt8) : Prop := prog (cutL s).1 = (k ++ (prog (cutL t).1).1, (prog (cutL t).1).2) ∧ (cutL s).2 = (cutL t).2
theorem rp_start (s : List UInt8) : RP s [] s := ⟨rfl, rfl⟩
theorem rp_step {s t x : List UInt8} {k : List Ins} {i : Nat × Int × Int × Int} (h : RP s k (x ++ 10 :: t)) (hx : ∀ c ∈ x, c ≠ 10) (hi : parseA x = some i) : RP s (k ++ [insI i]) t := by
  obtain ⟨h1, h2⟩ := h
  rw [cutL_line x t hx] at h1 h2
  rw [prog_some hi] at h1
  exact ⟨by rw [h1]; simp, h2⟩
theorem rp_bad {s t x : List UInt8} {k : List Ins} (h : RP s k (x ++ 10 :: t)) (hx : ∀ c ∈ x, c ≠ 10) (hi : parseA x = none) : readL s = [] ∧ readN s = k.length ∧ readE s = 3 := by
  obtain ⟨h1, h2⟩ := h
  rw [cutL_line x t hx, prog_none hi] at h1
  have hn : ¬ ((prog (cutL s).1).2 = true ∧ (cutL s).2 = []) := by rw [h1]; rintro ⟨h, _⟩; cases h
  exact ⟨if_neg hn, by unfold readN; rw [h1]; simp, if_neg hn⟩
theorem rp_tail {s t : List UInt8} {k : List Ins} (h : RP s k t) (ht : ∀ c ∈ t, c ≠ 10) (hne : t ≠ []) : readL s = [] ∧ readN s = k.length ∧ readE s = 3 := by
  obtain ⟨h1, h2⟩ := h
  rw [cutL_last t ht] at h1 h2
  have hn : ¬ ((prog (cutL s).1).2 = true ∧ (cutL s).2 = []) := by rw [h2]; rintro ⟨_, h⟩; exact hne h
  exact ⟨if_neg hn, by unfold readN; rw [h1]; simp [prog], if_neg hn⟩
theorem rp_end {s : List UInt8} {k : List Ins} (h : RP s k []) : readL s = k ∧ readN s = k.length ∧ readE s = 0 := by
  obtain ⟨h1, h2⟩ := h
  have h1 : prog (cutL s).1 = (k ++ [], true) := h1
  have hn : (prog (cutL s).1).2 = true ∧ (cutL s).2 = [] := ⟨by rw [h1], h2⟩
  exact ⟨by unfold readL; rw [if_pos hn, h1]; simp, by unfold readN; rw [h1]; simp, if_pos hn⟩
theorem rp_len {s t : List UInt8} {k : List Ins} (h : RP s k t) : k.length ≤ s.length := by
  have h1 := (prog_len (cutL s).1).1
  rw [h.1] at h1
  simp only [List.length_append] at h1
  have := cutL_count s
  omega

/-- a program's text -/
def lineI (i : Ins) : List UInt8 := lineL i.1.toNat i.2.1 i.2.2.1 i.2.2.2
def textI (l : List Ins) : List UInt8 := l.flatMap fun i => lineI i ++ [10]
def printT (l : List Ins) : List UInt8 := if l.all mayI = true then textI l else []
def printE (l : List Ins) : Int := if l.all mayI = true then 0 else 1
theorem textI_join (l : List Ins) : textI l = joinL (l.map lineI) := by
  unfold textI joinL
  rw [List.flatMap_map]
theorem lineI_parse {i : Ins} (h : mayI i = true) : ∃ p, parseA (lineI i) = some p ∧ insI p = i := by
  obtain ⟨op, a, b, im⟩ := i
  have h : mayB op a b im = true := h
  obtain ⟨n, rfl⟩ := Int.eq_ofNat_of_zero_le (show 0 ≤ op by have := (mayB_in h).1; omega)
  exact ⟨(n, a, b, im), parseA_complete h, rfl⟩
theorem lineI_of_parse {x : List UInt8} {p : Nat × Int × Int × Int} (h : parseA x = some p) : mayI (insI p) = true ∧ lineI (insI p) = x := by
  obtain ⟨op, a, b, im⟩ := p
  obtain ⟨h1, h2⟩ := parseA_sound h
  exact ⟨h1, h2⟩
theorem fig_no10 (n : Int) : ∀ c ∈ figs n, c ≠ 10 := by
  have h : ∀ m : Nat, ∀ c ∈ figN m, c ≠ 10 := fun m c hc e => by
    have := of_decide_eq_true ((figN_val m).2.1 c hc)
    subst e
    simp at this
  unfold figs
  split
  · intro c hc
    rcases List.mem_cons.1 hc with rfl | hc
    · decide
    · exact h _ c hc
  · exact h _
theorem name_no10 : ∀ op : Nat, op < 25 → ∀ c ∈ nameOf op, c ≠ 10 := by decide
theorem lineI_no {i : Ins} (h : mayI i = true) : ∀ c ∈ lineI i, c ≠ 10 := by
  obtain ⟨op, a, b, im⟩ := i
  have h : mayB op a b im = true := h
  have hl : op.toNat < 25 := by have := (mayB_in h).2.1; omega
  intro c hc
  have hc : c ∈ nameOf op.toNat ++ (useOf op.toNat).flatMap (part a b im) := hc
  rcases List.mem_append.1 hc with hc | hc
  · exact name_no10 _ hl c hc
  · obtain ⟨u, _, hc⟩ := List.mem_flatMap.1 hc
    unfold part at hc
    split at hc
    · rcases List.mem_cons.1 hc with rfl | hc
      · decide
      · rcases List.mem_cons.1 hc with rfl | hc
        · decide
        · exact fig_no10 _ c hc
    · split at hc
      · rcases List.mem_cons.1 hc with rfl | hc
        · decide
        · rcases List.mem_cons.1 hc with rfl | hc
          · decide
          · exact fig_no10 _ c hc
      · rcases List.mem_cons.1 hc with rfl | hc
        · decide
        · exact fig_no10 _ c hc
theorem cutL_text {l : List Ins} (h : l.all mayI = true) : cutL (textI l) = (l.map lineI, []) := by
  have := cutL_join (l.map lineI) [] (fun w hw => by
    obtain ⟨i, hi, rfl⟩ := List.mem_map.1 hw
    exact lineI_no (List.all_eq_true.1 h i hi)) (fun c hc => by cases hc)
  rw [List.append_nil, ← textI_join] at this
  exact this
theorem prog_lines {l : List Ins} (h : l.all mayI = true) : prog (l.map lineI) = (l, true) := by
  induction l with
  | nil => rfl
  | cons i l ih =>
    rw [List.all_cons, Bool.and_eq_true] at h
    obtain ⟨p, hp, hi⟩ := lineI_parse h.1
    rw [List.map_cons, prog_some hp, ih h.2, hi]
/-- what was printed is read as it was -/
theorem read_text {l : List Ins} (h : l.all mayI = true) : readL (textI l) = l ∧ readN (textI l) = l.length ∧ readE (textI l) = 0 := by
  have e1 := cutL_text h
  have e2 := prog_lines h
  have hn : (prog (cutL (textI l)).1).2 = true ∧ (cutL (textI l)).2 = [] := by rw [e1, e2]; exact ⟨rfl, rfl⟩
  exact ⟨by unfold readL; rw [if_pos hn, e1, e2], by unfold readN; rw [e1, e2], if_pos hn⟩
theorem lines_prog (ls : List (List UInt8)) : (prog ls).2 = true → (prog ls).1.all mayI = true ∧ (prog ls).1.map lineI = ls := by
  induction ls with
  | nil => intro _; exact ⟨rfl, rfl⟩
  | cons x ls ih =>
    cases h : parseA x with
    | none => rw [prog_none h]; intro h; cases h
    | some p =>
      rw [prog_some h]
      intro h2
      obtain ⟨e1, e2⟩ := ih h2
      obtain ⟨e3, e4⟩ := lineI_of_parse h
      exact ⟨by rw [List.all_cons, e3, e1]; rfl, by rw [List.map_cons, e4, e2]⟩
/-- what is read is printed just so -/
theorem text_read {s : List UInt8} (h : readE s = 0) : (readL s).all mayI = true ∧ textI (readL s) = s ∧ (readL s).length = readN s := by
  obtain ⟨h1, h2, h3⟩ := readE_ok h
  obtain ⟨e1, e2⟩ := lines_prog _ h1
  rw [h3]
  refine ⟨e1, ?_, rfl⟩
  rw [textI_join, e2]
  have := (joinL_cut s).1
  rw [h2, List.append_nil] at this
  exact this

/-- texts one behind the other -/
theorem cutL_app {a : List UInt8} (b : List UInt8) (h : (cutL a).2 = []) : cutL (a ++ b) = ((cutL a).1 ++ (cutL b).1, (cutL b).2) := by
  obtain ⟨a1, a2, _⟩ := joinL_cut a
  obtain ⟨b1, b2, b3⟩ := joinL_cut b
  rw [h, List.append_nil] at a1
  have e : a ++ b = joinL ((cutL a).1 ++ (cutL b).1) ++ (cutL b).2 := by
    unfold joinL at a1 b1 ⊢
    rw [List.flatMap_append, a1, List.append_assoc, b1]
  rw [e]
  refine cutL_join _ _ (fun w hw => ?_) b3
  rcases List.mem_append.1 hw with hw | hw
  · exact a2 w hw
  · exact b2 w hw
theorem prog_app (ls ks : List (List UInt8)) : (prog ls).2 = true → prog (ls ++ ks) = ((prog ls).1 ++ (prog ks).1, (prog ks).2) := by
  induction ls with
  | nil => intro _; rfl
  | cons x ls ih =>
    cases h : parseA x with
    | none => rw [prog_none h]; intro h; cases h
    | some p =>
      rw [prog_some h, List.cons_append, prog_some h]
      intro h2
      rw [ih h2]
      rfl
theorem read_app {a b : List UInt8} (ha : readE a = 0) (hb : readE b = 0) : readL (a ++ b) = readL a ++ readL b ∧ readN (a ++ b) = readN a + readN b ∧ readE (a ++ b) = 0 := by
  obtain ⟨a1, a2, a3⟩ := readE_ok ha
  obtain ⟨b1, b2, b3⟩ := readE_ok hb
  have e := cutL_app b a2
  have e2 := prog_app (cutL a).1 (cutL b).1 a1
  have hn : (prog (cutL (a ++ b)).1).2 = true ∧ (cutL (a ++ b)).2 = [] := by rw [e]; simp only; rw [e2]; exact ⟨b1, b2⟩
  refine ⟨?_, ?_, if_pos hn⟩
  · unfold readL at a3 b3 ⊢
    rw [if_pos hn, a3, b3, e]
    simp only
    rw [e2]
  · unfold readN
    rw [e]
    simp only
    rw [e2, List.length_append]

/-- the first n lines of a text -/
def headL (s : List UInt8) (n : Nat) : List UInt8 := joinL ((cutL s).1.take n)
theorem prog_take (ls : List (List UInt8)) : prog (ls.take (prog ls).1.length) = ((prog ls).1, true) := by
  induction ls with
  | nil => rfl
  | cons x ls ih =>
    cases h : parseA x with
    | none => rw [prog_none h]; rfl
    | some p =>
      rw [prog_some h]
      show prog ((x :: ls).take ((prog ls).1.length + 1)) = _
      rw [List.take_succ_cons, prog_some h, ih]
/-- with the line that is none left out, and all behind, the text is read -/
theorem read_head (s : List UInt8) : readN (headL s (readN s)) = readN s ∧ readE (headL s (readN s)) = 0 := by
  have e : cutL (headL s (readN s)) = ((cutL s).1.take (readN s), []) := by
    have := cutL_join ((cutL s).1.take (readN s)) [] (fun w hw => (joinL_cut s).2.1 w (List.mem_of_mem_take hw)) (fun c hc => by cases hc)
    rw [List.append_nil] at this
    exact this
  have e2 := prog_take (cutL s).1
  have hr : readN s = (prog (cutL s).1).1.length := rfl
  rw [hr] at e ⊢
  have hn : (prog (cutL (headL s (prog (cutL s).1).1.length)).1).2 = true ∧ (cutL (headL s (prog (cutL s).1).1.length)).2 = [] := by
    rw [e]; simp only; rw [e2]; exact ⟨by trivial, by trivial⟩
  exact ⟨by unfold readN; rw [e]; simp only; rw [e2], if_pos hn⟩

end Go.Proofs.YtijjamiidpikdaaDoor.Asm
