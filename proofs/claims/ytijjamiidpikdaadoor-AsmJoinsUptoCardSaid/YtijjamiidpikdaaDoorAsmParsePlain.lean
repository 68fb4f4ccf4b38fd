/-
  The instruction of a line, as the assembler takes it and as the reference takes it: both take an instruction just where it may be and its line is the text. Conditions: none.
-/
import Derived.Test.YtijjamiidpikdaaDoorAsmSplitPlain
import Derived.Test.YtijjamiidpikdaaDoorAsmNumPlain
import Derived.Test.YtijjamiidpikdaaDoorAsmRegPlain
namespace Go.Proofs.YtijjamiidpikdaaDoor.Asm
open Go.Proofs.YtijjamiidpikdaaDoor.Isa

/-- the operation of a name, among the first k -/
def opTo (w : List UInt8) : Nat → Nat
  | 0 => 0
  | k + 1 => if nameOf (k + 1) = w then k + 1 else opTo w k
theorem opTo_le (w : List UInt8) (k : Nat) : opTo w k ≤ k := by
  induction k with
  | zero => exact Nat.le_refl _
  | succ k ih => unfold opTo; split <;> omega
theorem opTo_name (w : List UInt8) (k : Nat) : opTo w k ≠ 0 → nameOf (opTo w k) = w := by
  induction k with
  | zero => intro h; exact absurd rfl h
  | succ k ih =>
    unfold opTo
    split
    · rename_i h; intro _; exact h
    · exact ih
theorem opTo_self : ∀ n : Nat, n < 25 → 1 ≤ n → opTo (nameOf n) 24 = n := by decide
theorem opTo_no (w : List UInt8) (k : Nat) : opTo w k = 0 → ∀ j, 1 ≤ j → j ≤ k → nameOf j ≠ w := by
  induction k with
  | zero => intro _ j h1 h2; omega
  | succ k ih =>
    unfold opTo
    split
    · intro h; omega
    · rename_i h
      intro h0 j h1 h2
      by_cases e : j = k + 1
      · subst e; exact h
      · exact ih h0 j h1 (by omega)
/-- an operation found among the first j + 1 is the one among all -/
theorem opTo_hit (w : List UInt8) (j : Nat) (hj : j < 24) (h : nameOf (j + 1) = w) : opTo w 24 = j + 1 := by
  subst h
  exact opTo_self (j + 1) (by omega) (by omega)

/-- a word of a line -/
def partW (a b imm : Int) (u : UInt8) : List UInt8 := if u = 97 then 114 :: figs a else if u = 98 then 114 :: figs b else figs imm
theorem part_word (a b imm : Int) (u : UInt8) : part a b imm u = 32 :: partW a b imm u := by
  unfold part partW
  split
  · rfl
  · split <;> rfl
theorem lineL_join (op : Nat) (a b imm : Int) : lineL op a b imm = joinW (nameOf op :: (useOf op).map (partW a b imm)) := by
  show nameOf op ++ _ = nameOf op ++ ((useOf op).map (partW a b imm)).flatMap (fun v => 32 :: v)
  rw [List.flatMap_map]
  congr 1
  exact congrArg (fun f => (useOf op).flatMap f) (funext (part_word a b imm))
theorem name_no : ∀ op : Nat, op < 25 → ∀ c ∈ nameOf op, c ≠ 32 := by decide
theorem figN_no (m : Nat) : ∀ c ∈ figN m, c ≠ 32 := fun c hc e => by
  have := of_decide_eq_true ((figN_val m).2.1 c hc)
  subst e
  simp at this
theorem figs_no (n : Int) : ∀ c ∈ figs n, c ≠ 32 := by
  unfold figs
  split
  · intro c hc
    rcases List.mem_cons.1 hc with rfl | hc
    · decide
    · exact figN_no _ c hc
  · exact figN_no _
theorem partW_no (a b imm : Int) (u : UInt8) : ∀ c ∈ partW a b imm u, c ≠ 32 := by
  unfold partW
  have h : ∀ n : Int, ∀ c ∈ 114 :: figs n, c ≠ 32 := fun n c hc => by
    rcases List.mem_cons.1 hc with rfl | hc
    · decide
    · exact figs_no _ c hc
  split
  · exact h a
  · split
    · exact h b
    · exact figs_no imm
theorem splitW_line (op : Nat) (a b imm : Int) (h : op < 25) : splitW (lineL op a b imm) = nameOf op :: (useOf op).map (partW a b imm) := by
  rw [lineL_join]
  refine splitW_join _ _ (fun v hv => ?_)
  rcases List.mem_cons.1 hv with rfl | hv
  · exact name_no op h
  · obtain ⟨u, _, rfl⟩ := List.mem_map.1 hv
    exact partW_no a b imm u

theorem numT_sound {t l : List UInt8} {mi : Bool} {n : Int} (h : numT t mi l = (n, true)) : l = figs n := by
  unfold numT at h
  generalize (if mi = true then -(val t : Int) else (val t : Int)) = v at h
  split at h
  · cases h
  · split at h
    · split at h
      · rename_i e
        injection h with h _
        rw [← h]
        exact e.symm
      · cases h
    · cases h
theorem numV_sound {w : List UInt8} {n : Int} (h : numV w = (n, true)) : w = figs n := numT_sound h
theorem regV_sound {w : List UInt8} {n : Int} (h : regV w = (n, true)) : w = 114 :: figs n := by
  unfold regV at h
  injection h with h1 h2
  simp only [Bool.and_eq_true] at h2
  obtain ⟨h2, h3⟩ := h2
  have hn := numV_sound (show numV (cutR w).1 = (n, true) from by rw [← h1, ← h3])
  cases w with
  | nil => simp [cutR] at h2
  | cons c t =>
    by_cases e : c = 114
    · subst e
      simp [cutR] at hn
      rw [hn]
    · simp [cutR, e] at h2
theorem regV_figs {n : Int} (h0 : -99999 ≤ n) (h1 : n ≤ 99999) : regV (114 :: figs n) = (n, true) := by
  unfold regV
  rw [show cutR (114 :: figs n) = (figs n, true) from by simp [cutR], numV_figs h0 h1]
  rfl

/-- the parts of an instruction, out of the first k words behind the name -/
def partsA (us : List UInt8) (ws : List (List UInt8)) : Nat → Int × Int × Int × Bool
  | 0 => (0, 0, 0, true)
  | k + 1 =>
    if (partsA us ws k).2.2.2 = true then
      if us.getD k 0 = 97 then ((regV (ws.getD (k + 1) [])).1, (partsA us ws k).2.1, (partsA us ws k).2.2.1, (regV (ws.getD (k + 1) [])).2)
      else if us.getD k 0 = 98 then ((partsA us ws k).1, (regV (ws.getD (k + 1) [])).1, (partsA us ws k).2.2.1, (regV (ws.getD (k + 1) [])).2)
      else ((partsA us ws k).1, (partsA us ws k).2.1, (numV (ws.getD (k + 1) [])).1, (numV (ws.getD (k + 1) [])).2)
    else partsA us ws k
theorem partsA_stop (us : List UInt8) (ws : List (List UInt8)) {k : Nat} (h : (partsA us ws k).2.2.2 = false) (n : Nat) : k ≤ n → (partsA us ws n).2.2.2 = false := by
  induction n with
  | zero => intro hk; obtain rfl : k = 0 := by omega
            exact h
  | succ n ih =>
    intro hk
    by_cases e : k = n + 1
    · subst e; exact h
    · have := ih (by omega)
      unfold partsA
      rw [if_neg (by rw [this]; decide)]
      exact this
theorem partsA_range (us : List UInt8) (ws : List (List UInt8)) (k : Nat) :
    (-99999 ≤ (partsA us ws k).1 ∧ (partsA us ws k).1 ≤ 99999) ∧ (-99999 ≤ (partsA us ws k).2.1 ∧ (partsA us ws k).2.1 ≤ 99999) ∧ (-99999 ≤ (partsA us ws k).2.2.1 ∧ (partsA us ws k).2.2.1 ≤ 99999) := by
  induction k with
  | zero => simp [partsA]
  | succ k ih =>
    have h1 := numV_range (ws.getD (k + 1) [])
    have h2 := numV_range (cutR (ws.getD (k + 1) [])).1
    unfold partsA
    split
    · split
      · exact ⟨⟨h2.1, h2.2.1⟩, ih.2.1, ih.2.2⟩
      · split
        · exact ⟨ih.1, ⟨h2.1, h2.2.1⟩, ih.2.2⟩
        · exact ⟨ih.1, ih.2.1, h1.1, h1.2.1⟩
    · exact ih

/-- an instruction, and whether it is one -/
abbrev InsR := Option (Nat × Int × Int × Int)
/-- as the assembler takes it -/
def parseA (s : List UInt8) : InsR :=
  let ws := splitW s
  let op := opTo (ws.getD 0 []) 24
  let p := partsA (useOf op) ws (useOf op).length
  if ws.length = 1 + (useOf op).length ∧ p.2.2.2 = true ∧ mayB op p.1 p.2.1 p.2.2.1 = true then some (op, p.1, p.2.1, p.2.2.1) else none

theorem use_shape : ∀ op : Nat, op < 25 → useOf op = [97, 105] ∨ useOf op = [97, 98] ∨ useOf op = [97, 98, 105] ∨ useOf op = [105] ∨ useOf op = [97] ∨ useOf op = [] := by decide
theorem use_a : ∀ op : Nat, op < 25 → 1 ≤ op → (uA op = true ↔ 97 ∈ useOf op) := by decide
theorem use_b : ∀ op : Nat, op < 25 → 1 ≤ op → (uB op = true ↔ 98 ∈ useOf op) := by decide
theorem use_i : ∀ op : Nat, op < 25 → 1 ≤ op → (uI op = true ↔ 105 ∈ useOf op) := by decide
/-- what is not used is naught -/
theorem may_unused {op : Nat} {a b imm : Int} (h : mayB op a b imm = true) : op < 25 ∧ 1 ≤ op ∧ (0 ≤ a ∧ a ≤ 7) ∧ (0 ≤ b ∧ b ≤ 7) ∧ (-32768 ≤ imm ∧ imm ≤ 32767) ∧ (97 ∉ useOf op → a = 0) ∧ (98 ∉ useOf op → b = 0) ∧ (105 ∉ useOf op → imm = 0) := by
  obtain ⟨⟨h1, h2, h3, h4, h5, h6, h7, h8⟩, ha, hb, hi⟩ := of_decide_eq_true h
  have l : op < 25 := by omega
  have g : 1 ≤ op := by omega
  exact ⟨l, g, ⟨h3, h4⟩, ⟨h5, h6⟩, ⟨h7, h8⟩, fun hn => ha.resolve_left (fun e => hn ((use_a op l g).1 e)), fun hn => hb.resolve_left (fun e => hn ((use_b op l g).1 e)), fun hn => hi.resolve_left (fun e => hn ((use_i op l g).1 e))⟩

theorem parseA_complete {op : Nat} {a b imm : Int} (h : mayB op a b imm = true) : parseA (lineL op a b imm) = some (op, a, b, imm) := by
  obtain ⟨l, g, ⟨a0, a1⟩, ⟨b0, b1⟩, ⟨i0, i1⟩, na, nb, ni⟩ := may_unused h
  unfold parseA
  rw [splitW_line op a b imm l]
  have ho : opTo ((nameOf op :: (useOf op).map (partW a b imm)).getD 0 []) 24 = op := opTo_self op l g
  simp only [ho]
  have ra := regV_figs (n := a) (by omega) (by omega)
  have rb := regV_figs (n := b) (by omega) (by omega)
  have ri := numV_figs (n := imm) (by omega) (by omega)
  have key : partsA (useOf op) (nameOf op :: (useOf op).map (partW a b imm)) (useOf op).length = (a, b, imm, true) := by
    generalize nameOf op = nm
    rcases use_shape op l with e | e | e | e | e | e
    all_goals
      rw [e] at na nb ni ⊢
      simp at na nb ni
      try subst na
      try subst nb
      try subst ni
      simp [partsA, partW, ra, rb, ri]
  rw [key, if_pos ⟨by simp; omega, rfl, h⟩]

theorem parseA_sound {s : List UInt8} {op : Nat} {a b imm : Int} (h : parseA s = some (op, a, b, imm)) : mayB op a b imm = true ∧ lineL op a b imm = s := by
  unfold parseA at h
  have hj := joinW_split s
  have hne := splitW_ne s
  generalize splitW s = ws at h hj hne
  obtain ⟨w0, rest, rfl⟩ : ∃ w rest, ws = w :: rest := by
    cases ws with
    | nil => exact absurd rfl hne
    | cons w rest => exact ⟨w, rest, rfl⟩
  have hw : ((w0 :: rest).getD 0 []) = w0 := rfl
  simp only [hw] at h
  have hle := opTo_le w0 24
  have hname := opTo_name w0 24
  generalize opTo w0 24 = o at h hle hname
  split at h
  · rename_i hc
    obtain ⟨h1, h2, h3⟩ := hc
    injection h with h
    injection h with e1 h
    injection h with e2 h
    injection h with e3 e4
    subst e1
    rw [e2, e3, e4] at h3
    refine ⟨h3, ?_⟩
    have g : 1 ≤ o := (may_unused h3).2.1
    rw [lineL_join, ← hj, hname (by omega)]
    congr 2
    have hp : partsA (useOf o) (w0 :: rest) (useOf o).length = (a, b, imm, true) := by
      rw [← e2, ← e3, ← e4, ← h2]
    clear e2 e3 e4 h2 h3 hj hname
    have hl : rest.length = (useOf o).length := by simp at h1; omega
    have key : ∀ us : List UInt8, us = useOf o → us.map (partW a b imm) = rest := fun us hu => by
      rw [← hu] at hl hp
      rcases use_shape o (by omega) with e | e | e | e | e | e
      all_goals
        rw [e] at hu
        subst hu
      · match rest, hl with
        | [p, q], _ =>
          simp [partsA] at hp
          split at hp
          · rename_i g1
            simp only [Prod.mk.injEq] at hp
            obtain ⟨p1, p2, p3, p4⟩ := hp
            have r1 := regV_sound (show regV p = (a, true) from Prod.ext p1 g1)
            have r2 := numV_sound (show numV q = (imm, true) from Prod.ext p3 p4)
            subst r1 r2
            simp [partW]
          · rename_i g1
            simp only [Prod.mk.injEq] at hp
            exact absurd hp.2.2.2 g1
      · match rest, hl with
        | [p, q], _ =>
          simp [partsA] at hp
          split at hp
          · rename_i g1
            simp only [Prod.mk.injEq] at hp
            obtain ⟨p1, p2, p3, p4⟩ := hp
            have r1 := regV_sound (show regV p = (a, true) from Prod.ext p1 g1)
            have r2 := regV_sound (show regV q = (b, true) from Prod.ext p2 p4)
            subst r1 r2
            simp [partW]
          · rename_i g1
            simp only [Prod.mk.injEq] at hp
            exact absurd hp.2.2.2 g1
      · match rest, hl with
        | [p, q, r], _ =>
          simp [partsA] at hp
          split at hp
          · rename_i g1
            split at hp
            · rename_i g2
              simp only [Prod.mk.injEq] at hp
              obtain ⟨p1, p2, p3, p4⟩ := hp
              have r1 := regV_sound (show regV p = (a, true) from Prod.ext p1 g1)
              have r2 := regV_sound (show regV q = (b, true) from Prod.ext p2 g2)
              have r3 := numV_sound (show numV r = (imm, true) from Prod.ext p3 p4)
              subst r1 r2 r3
              simp [partW]
            · rename_i g2
              simp only [Prod.mk.injEq] at hp
              exact absurd hp.2.2.2 g2
          · rename_i g1
            simp only [Prod.mk.injEq] at hp
            exact absurd hp.2.2.2 g1
      · match rest, hl with
        | [p], _ =>
          simp [partsA] at hp
          obtain ⟨_, _, p1, p2⟩ := hp
          have r1 := numV_sound (show numV p = (imm, true) from Prod.ext p1 p2)
          subst r1
          simp [partW]
      · match rest, hl with
        | [p], _ =>
          simp [partsA] at hp
          obtain ⟨p1, _, _, p2⟩ := hp
          have r1 := regV_sound (show regV p = (a, true) from Prod.ext p1 p2)
          subst r1
          simp [partW]
      · match rest, hl with
        | [], _ => rfl
    exact key _ rfl
  · cases h

/-- is a word a register's, as the reference looks at it -/
def isRegW (w : List UInt8) : Bool := decide (w.length = 2) && (w.getD 0 0 == 114) && isDig (w.getD 1 0)
/-- how many of them stand ahead -/
def lead : List (List UInt8) → Nat
  | [] => 0
  | w :: ws => if isRegW w = true then lead ws + 1 else 0
theorem lead_le (ws : List (List UInt8)) : lead ws ≤ ws.length := by
  induction ws with
  | nil => exact Nat.le_refl _
  | cons w ws ih => unfold lead; split <;> simp <;> omega
theorem lead_all (ws : List (List UInt8)) : ∀ j, j < lead ws → isRegW (ws.getD j []) = true := by
  induction ws with
  | nil => intro j h; simp [lead] at h
  | cons w ws ih =>
    intro j h
    unfold lead at h
    split at h
    · rename_i hw
      cases j with
      | zero => exact hw
      | succ j => exact ih j (by omega)
    · omega
theorem lead_stop (ws : List (List UInt8)) : lead ws < ws.length → isRegW (ws.getD (lead ws) []) = false := by
  induction ws with
  | nil => intro h; simp [lead] at h
  | cons w ws ih =>
    intro h
    unfold lead at h ⊢
    split at h
    · rename_i hw
      rw [if_pos hw]
      exact ih (by simp at h; omega)
    · rename_i hw
      rw [if_neg hw]
      simpa using hw
def regDig (w : List UInt8) : Int := ((w.getD 1 0).toNat : Int) - 48
/-- the parts as the reference takes them -/
def rA (ws : List (List UInt8)) (m : Nat) : Int := if 1 ≤ m then regDig (ws.getD 1 []) else 0
def rB (ws : List (List UInt8)) (m : Nat) : Int := if 2 ≤ m then regDig (ws.getD 2 []) else 0
def rI (ws : List (List UInt8)) (m : Nat) : Int × Bool := if m + 1 < ws.length then numV (ws.getD (m + 1) []) else (0, true)
/-- as the reference takes it -/
def parseR (s : List UInt8) : InsR :=
  let ws := splitW s
  let op := opTo (ws.getD 0 []) 24
  let m := lead ws.tail
  if op ≠ 0 ∧ (rI ws m).2 = true ∧ mayB op (rA ws m) (rB ws m) (rI ws m).1 = true ∧ lineL op (rA ws m) (rB ws m) (rI ws m).1 = s then some (op, rA ws m, rB ws m, (rI ws m).1) else none
theorem parseR_sound {s : List UInt8} {op : Nat} {a b imm : Int} (h : parseR s = some (op, a, b, imm)) : mayB op a b imm = true ∧ lineL op a b imm = s := by
  unfold parseR at h
  simp only at h
  split at h
  · rename_i hc
    obtain ⟨_, _, h3, h4⟩ := hc
    injection h with h
    injection h with e1 h
    injection h with e2 h
    injection h with e3 e4
    rw [e1, e2, e3, e4] at h3 h4
    exact ⟨h3, h4⟩
  · cases h
theorem reg_digit : ∀ a : Nat, a ≤ 7 → figs (a : Int) = [UInt8.ofNat (48 + a)] ∧ isRegW (114 :: figs (a : Int)) = true ∧ regDig (114 :: figs (a : Int)) = a := by
  intro a h
  have e : figs (a : Int) = [UInt8.ofNat (48 + a)] := by
    unfold figs
    rw [if_neg (by omega), show ((a : Int)).natAbs = a by omega, figN_step, show a / 10 = 0 by omega, dg_zero, show a % 10 = a by omega]
    rfl
  rw [e]
  refine ⟨rfl, ?_, ?_⟩
  · match a, h with
    | 0, _ => rfl
    | 1, _ => rfl
    | 2, _ => rfl
    | 3, _ => rfl
    | 4, _ => rfl
    | 5, _ => rfl
    | 6, _ => rfl
    | 7, _ => rfl
  · match a, h with
    | 0, _ => rfl
    | 1, _ => rfl
    | 2, _ => rfl
    | 3, _ => rfl
    | 4, _ => rfl
    | 5, _ => rfl
    | 6, _ => rfl
    | 7, _ => rfl
theorem figs_not_reg (n : Int) : isRegW (figs n) = false := by
  have h : ∀ c t, figs n = c :: t → c ≠ 114 := fun c t e => by
    unfold figs at e
    split at e
    · injection e with e _
      rw [← e]; decide
    · have := (figN_val n.natAbs).2.1 c (by rw [e]; simp)
      intro e2
      subst e2
      simp [isDig] at this
  unfold isRegW
  cases hf : figs n with
  | nil => rfl
  | cons c t =>
    have := h c t hf
    simp [this]
theorem parseR_complete {op : Nat} {a b imm : Int} (h : mayB op a b imm = true) : parseR (lineL op a b imm) = some (op, a, b, imm) := by
  obtain ⟨l, g, ⟨a0, a1⟩, ⟨b0, b1⟩, ⟨i0, i1⟩, na, nb, ni⟩ := may_unused h
  unfold parseR
  rw [splitW_line op a b imm l]
  have ho : opTo ((nameOf op :: (useOf op).map (partW a b imm)).getD 0 []) 24 = op := opTo_self op l g
  simp only [ho]
  have hw : (nameOf op :: (useOf op).map (partW a b imm)).tail = (useOf op).map (partW a b imm) := rfl
  rw [hw]
  have hA : isRegW (114 :: figs a) = true ∧ regDig (114 :: figs a) = a := by
    have := (reg_digit a.toNat (by omega)).2
    rwa [show ((a.toNat : Nat) : Int) = a by omega] at this
  have hB : isRegW (114 :: figs b) = true ∧ regDig (114 :: figs b) = b := by
    have := (reg_digit b.toNat (by omega)).2
    rwa [show ((b.toNat : Nat) : Int) = b by omega] at this
  have hI := figs_not_reg imm
  have hN := numV_figs (n := imm) (by omega) (by omega)
  have key : rA (nameOf op :: (useOf op).map (partW a b imm)) (lead ((useOf op).map (partW a b imm))) = a ∧ rB (nameOf op :: (useOf op).map (partW a b imm)) (lead ((useOf op).map (partW a b imm))) = b ∧
      rI (nameOf op :: (useOf op).map (partW a b imm)) (lead ((useOf op).map (partW a b imm))) = (imm, true) := by
    generalize nameOf op = nm
    rcases use_shape op l with e | e | e | e | e | e
    all_goals
      rw [e] at na nb ni ⊢
      simp at na nb ni
      try subst na
      try subst nb
      try subst ni
      simp [lead, partW, hA.1, hB.1, hI, rA, rB, rI, hN, hA.2, hB.2]
  rw [key.1, key.2.1, key.2.2, if_pos ⟨by omega, rfl, h, rfl⟩]

/-- both take the same -/
theorem parse_same (s : List UInt8) : parseA s = parseR s := by
  cases ha : parseA s with
  | some x =>
    obtain ⟨op, a, b, imm⟩ := x
    obtain ⟨h1, h2⟩ := parseA_sound ha
    rw [← h2, parseR_complete h1]
  | none =>
    cases hr : parseR s with
    | none => rfl
    | some x =>
      obtain ⟨op, a, b, imm⟩ := x
      obtain ⟨h1, h2⟩ := parseR_sound hr
      rw [← h2, parseA_complete h1] at ha
      cases ha
/-- no two instructions have one line -/
theorem line_inj {op op' : Nat} {a b imm a' b' imm' : Int} (h : mayB op a b imm = true) (h' : mayB op' a' b' imm' = true) (e : lineL op a b imm = lineL op' a' b' imm') : op = op' ∧ a = a' ∧ b = b' ∧ imm = imm' := by
  have h1 := parseA_complete h
  rw [e, parseA_complete h'] at h1
  injection h1 with h1
  injection h1 with e1 h1
  injection h1 with e2 h1
  injection h1 with e3 e4
  exact ⟨e1.symm, e2.symm, e3.symm, e4.symm⟩

end Go.Proofs.YtijjamiidpikdaaDoor.Asm
