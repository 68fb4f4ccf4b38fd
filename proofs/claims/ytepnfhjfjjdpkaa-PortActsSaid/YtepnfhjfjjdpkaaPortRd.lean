/-
  A slice of messages that reads as a list; what sending does to such a list. Conditions: none.
-/
import Derived.Test.YtepnfhjfjjdpkaaKit
import Derived.ArgAppend
namespace Go.Proofs.Ytepnfhjfjjdpkaa.Port
open Go.RowKit

/-- a message: when, what -/
abbrev Msg := Int × ByteArray
def cellsM (ms : List Msg) : List Value := ms.flatMap fun m => [.int .u64 m.1, .string m.2]
theorem cellsM_length (ms : List Msg) : (cellsM ms).length = ms.length * 2 := by
  unfold cellsM
  induction ms with
  | nil => rfl
  | cons m ms ih => simp only [List.flatMap_cons, List.length_append, List.length_cons, List.length_nil, ih]; omega
theorem cellsM_append (ms ns : List Msg) : cellsM (ms ++ ns) = cellsM ms ++ cellsM ns := by simp [cellsM]
theorem cellsM_get (ms : List Msg) : ∀ (k : Nat) (m : Msg), ms[k]? = some m → (cellsM ms)[k * 2]? = some (.int .u64 m.1) ∧ (cellsM ms)[k * 2 + 1]? = some (.string m.2) := by
  induction ms with
  | nil => intro k m h; simp at h
  | cons x ms ih =>
    intro k m h
    cases k with
    | zero => simp at h; subst h; exact ⟨rfl, rfl⟩
    | succ k =>
      have := ih k m (by simpa using h)
      have e1 : (k + 1) * 2 = (k * 2) + 1 + 1 := by omega
      have e2 : (k + 1) * 2 + 1 = (k * 2 + 1) + 1 + 1 := by omega
      rw [e2, e1]
      show (Value.int .u64 x.1 :: Value.string x.2 :: cellsM ms)[(k * 2) + 1 + 1]? = _ ∧ (Value.int .u64 x.1 :: Value.string x.2 :: cellsM ms)[(k * 2 + 1) + 1 + 1]? = _
      simpa using this
theorem cellsM_one (ms : List Msg) : ∀ u ∈ cellsM ms, u.oneCell' = true := by
  intro u hu
  unfold cellsM at hu
  rw [List.mem_flatMap] at hu
  obtain ⟨m, _, hm⟩ := hu
  simp at hm
  rcases hm with rfl | rfl <;> rfl

/-- the slice '.slice A n c' holds the messages ms -/
def Rd (w : World) (A : Option Addr) (n c : Nat) (ms : List Msg) : Prop :=
  ms.length = n ∧ n ≤ c ∧ c ≤ maxLen ∧ (A = none → c = 0) ∧ ∀ b, A = some b → (0 < n → b.block < w.heap.size) ∧ ∀ j u, (cellsM ms)[j]? = some u → w.cell? (b.add j) = some u

theorem add_block (a : Addr) (n : Nat) : (a.add n).block = a.block := by unfold Addr.add; split <;> rfl
theorem add_add (a : Addr) (i j : Nat) : (a.add i).add j = a.add (i + j) := by
  unfold Addr.add
  by_cases hi : i = 0 <;> by_cases hj : j = 0 <;> simp [hi, hj, Nat.add_assoc]

section
variable {w w' : World} {A : Option Addr} {n c : Nat} {ms : List Msg}
theorem Rd.nil (w : World) : Rd w none 0 0 [] := ⟨rfl, Nat.le_refl _, by simp [maxLen], fun _ => rfl, fun b h => by cases h⟩
theorem Rd.keep (h : Rd w A n c ms) (hs : w.heap.size ≤ w'.heap.size) (hk : ∀ p : Addr, p.block < w.heap.size → w'.cell? p = w.cell? p) : Rd w' A n c ms := by
  obtain ⟨h1, h2, h3, h4, h5⟩ := h
  refine ⟨h1, h2, h3, h4, fun b hb => ⟨fun hn => Nat.lt_of_lt_of_le ((h5 b hb).1 hn) hs, fun j u hu => ?_⟩⟩
  have hj : j < (cellsM ms).length := (List.getElem?_eq_some_iff.1 hu).1
  rw [cellsM_length] at hj
  exact (hk _ (by rw [add_block]; exact (h5 b hb).1 (by omega))).trans ((h5 b hb).2 j u hu)
theorem Rd.below (h : Rd w A n c ms) (hb : Below w.heap.size w w') : Rd w' A n c ms := h.keep hb.size fun _ hp => hb.cell hp
theorem Rd.drew (h : Rd w A n c ms) : Rd w.drew A n c ms := h
/-- the elements' cells -/
theorem Rd.at_ (h : Rd w A n c ms) {k : Nat} (hk : k < n) : ∃ b m, A = some b ∧ b.block < w.heap.size ∧ ms[k]? = some m ∧ w.cell? (b.add (k * 2)) = some (.int .u64 m.1) ∧ w.cell? (b.add (k * 2 + 1)) = some (.string m.2) := by
  obtain ⟨h1, h2, h3, h4, h5⟩ := h
  cases A with
  | none => have := h4 rfl; omega
  | some b =>
    obtain ⟨hb, hc⟩ := h5 b rfl
    have hk' : k < ms.length := by omega
    have := cellsM_get ms k ms[k] (List.getElem?_eq_getElem hk')
    exact ⟨b, ms[k], rfl, hb (by omega), List.getElem?_eq_getElem hk', hc _ _ this.1, hc _ _ this.2⟩
theorem Rd.of_own {base : Nat} {e : TypeId} (h : w.ownsRow base e 2 (.slice A n c) n (cellsM ms)) : Rd w A n c ms := by
  obtain ⟨h1, h2⟩ := h
  rw [cellsM_length] at h1
  rcases h2 with ⟨hv, rfl⟩ | ⟨g, cap, cur, hv, hg, hh, hnc, hcm, hsz, htake⟩
  · injection hv with e1 e2 e3
    subst e1 e3
    exact ⟨by omega, Nat.le_refl _, by simp [maxLen], fun _ => rfl, fun b h => by cases h⟩
  · injection hv with e1 e2 e3
    subst e1 e3
    refine ⟨by omega, hnc, hcm, (fun h => by cases h), fun b hb => ?_⟩
    injection hb with hb
    subst hb
    have hlt : g < w.heap.size := by
      rcases Nat.lt_or_ge g w.heap.size with h | h
      · exact h
      · rw [Array.getElem?_eq_none h] at hh; cases hh
    refine ⟨fun _ => hlt, fun j u hu => ?_⟩
    have e : (⟨g, 0, none⟩ : Addr).add j = ⟨g, j, none⟩ := by
      unfold Addr.add
      split
      · rename_i h; subst h; rfl
      · simp
    rw [e]
    simp only [World.cell?, hh]
    rw [← htake, List.getElem?_take] at hu
    split at hu
    · rw [← hu]; simp
    · cases hu
theorem Rd.setCell (h : Rd w A n c ms) {p : Addr} (hp : ∀ b, A = some b → b.block ≠ p.block) (v : Value) : Rd (w.setCell p v) A n c ms := by
  obtain ⟨h1, h2, h3, h4, h5⟩ := h
  refine ⟨h1, h2, h3, h4, fun b hb => ⟨fun hn => by simpa [World.setCell] using (h5 b hb).1 hn, fun j u hu => ?_⟩⟩
  rw [World.cell?_setCell_other _ _ _ _ (fun e => hp b hb (by rw [e, add_block]))]
  exact (h5 b hb).2 j u hu
theorem Rd.alloc (h : Rd w A n c ms) (o : Obj) : Rd (w.alloc o) A n c ms := h.below (below_new w o)
end

theorem Rd.tail {w : World} {A : Option Addr} {n c : Nat} {m : Msg} {ms : List Msg} (h : Rd w A n c (m :: ms)) (hn : n ≠ 1) : Rd w (A.map fun x => ⟨x.block, x.off + 2, none⟩) (n - 1) (n - 1) ms := by
  obtain ⟨h1, h2, h3, h4, h5⟩ := h
  have hl : ms.length = n - 1 := by simp at h1; omega
  refine ⟨hl, Nat.le_refl _, by omega, (fun e => ?_), fun b hb => ?_⟩
  · have : A = none := by cases A with
      | none => rfl
      | some a => cases e
    have := h4 this
    omega
  · cases A with
    | none => cases hb
    | some a =>
      simp only [Option.map_some, Option.some.injEq] at hb
      subst hb
      refine ⟨fun hk => (h5 a rfl).1 (by omega), fun j u hu => ?_⟩
      have e : (⟨a.block, a.off + 2, none⟩ : Addr).add j = a.add (j + 2) := by
        unfold Addr.add
        by_cases hj : j = 0
        · subst hj; simp
        · simp [hj]; omega
      rw [e]
      exact (h5 a rfl).2 (j + 2) u (by rw [← hu]; rfl)
theorem rd_fin {w w' : World} {A : Option Addr} {n c : Nat} {ms : List Msg} (h : Hid (Rd w A n c ms)) (hb : Below w.heap.size w w') : Rd w' A n c ms ∧ Below w.heap.size w w' := ⟨h.out.below hb, hb⟩
/-- a cell of an old block behind three new blocks (a rule of the walk) -/
theorem cell3 {w : World} {a : Addr} {v : Value} (h : w.cell? a = some v) (o1 o2 o3 : Obj) : (((w.alloc o1).alloc o2).alloc o3).cell? a = some v := by
  have hl := World.block_lt_of_cell? _ _ h
  rw [World.cell?_alloc_lt _ _ _ (by simp; omega), World.cell?_alloc_lt _ _ _ (by simp; omega), World.cell?_alloc_lt _ _ _ hl, h]
theorem two_new {w : World} {g : Nat} {a b : Value} {t : TypeId} (hg : g = w.heap.size) : ∀ j u, [a, b][j]? = some u → (w.alloc (.cells #[a, b] t)).cell? ((⟨g, 0, none⟩ : Addr).add j) = some u := by
  subst hg
  exact cell_two_new _ _ _ _
/-- behind an append that has grown: what was there is as it was -/
theorem grown_below {w w' : World} (h : w.grownBy w' none) : Below w.heap.size w w' := (Below.refl _ _).grown h (Nat.le_refl _) (fun k hk => by cases hk)
theorem own_form {w : World} {base n : Nat} {e : TypeId} {v : Value} {xs : List Value} (h : w.ownsRow base e 2 v (n + 1) xs) : ∃ g cap, v = .slice (some ⟨g, 0, none⟩) (n + 1) cap ∧ base ≤ g := by
  rcases h.2 with ⟨_, h0⟩ | ⟨g, cap, cur, hv, hg, _⟩
  · omega
  · exact ⟨g, cap, hv, hg⟩

end Go.Proofs.Ytepnfhjfjjdpkaa.Port
