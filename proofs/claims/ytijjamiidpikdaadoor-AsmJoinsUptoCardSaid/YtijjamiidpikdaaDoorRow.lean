/-
  A slice whose cells are known: what it reads as, kept over new blocks and stores elsewhere; out of an argument, out of an own row. Conditions: none.
-/
import Derived.Test.YtijjamiidpikdaaDoorKit
import Derived.Deep.Slices
namespace Go.Proofs.YtijjamiidpikdaaDoor
open Go.RowKit

theorem add_block (a : Addr) (n : Nat) : (a.add n).block = a.block := by unfold Addr.add; split <;> rfl

/-- the slice '.slice A n c' of elements of so many cells holds the cells cs -/
def RdC (w : World) (size : Nat) (A : Option Addr) (n c : Nat) (cs : List Value) : Prop :=
  cs.length = n * size ∧ n ≤ c ∧ c ≤ maxLen ∧ (A = none → c = 0) ∧ ∀ b, A = some b → (0 < n → b.block < w.heap.size) ∧ ∀ j u, cs[j]? = some u → w.cell? (b.add j) = some u

section
variable {w w' : World} {A : Option Addr} {n c size : Nat} {cs : List Value}
theorem RdC.nil (w : World) (size : Nat) : RdC w size none 0 0 [] := ⟨by simp, Nat.le_refl _, by simp [maxLen], fun _ => rfl, fun b h => by cases h⟩
theorem RdC.keep (h : RdC w size A n c cs) (hs : w.heap.size ≤ w'.heap.size) (hk : ∀ p : Addr, p.block < w.heap.size → w'.cell? p = w.cell? p) : RdC w' size A n c cs := by
  obtain ⟨h1, h2, h3, h4, h5⟩ := h
  refine ⟨h1, h2, h3, h4, fun b hb => ⟨fun hn => Nat.lt_of_lt_of_le ((h5 b hb).1 hn) hs, fun j u hu => ?_⟩⟩
  have hj : j < cs.length := (List.getElem?_eq_some_iff.1 hu).1
  have hn : 0 < n := by
    rcases Nat.eq_zero_or_pos n with h0 | h0
    · subst h0; simp at h1; subst h1; simp at hj
    · exact h0
  exact (hk _ (by rw [add_block]; exact (h5 b hb).1 hn)).trans ((h5 b hb).2 j u hu)
theorem RdC.below (h : RdC w size A n c cs) (hb : Below w.heap.size w w') : RdC w' size A n c cs := h.keep hb.size fun _ hp => hb.cell hp
theorem RdC.drew (h : RdC w size A n c cs) : RdC w.drew size A n c cs := h
theorem RdC.alloc (h : RdC w size A n c cs) (o : Obj) : RdC (w.alloc o) size A n c cs := h.below (below_new w o)
theorem RdC.setCell (h : RdC w size A n c cs) {p : Addr} (hp : ∀ b, A = some b → b.block ≠ p.block) (v : Value) : RdC (w.setCell p v) size A n c cs := by
  obtain ⟨h1, h2, h3, h4, h5⟩ := h
  refine ⟨h1, h2, h3, h4, fun b hb => ⟨fun hn => by simpa [World.setCell] using (h5 b hb).1 hn, fun j u hu => ?_⟩⟩
  rw [World.cell?_setCell_other _ _ _ _ (fun e => hp b hb (by rw [e, add_block]))]
  exact (h5 b hb).2 j u hu
theorem RdC.lit (h : RdC w size A n c cs) (hn : 0 < n) (hs : 0 < size) :
    ∃ b o, A = some ⟨b, o, none⟩ ∧ b < w.heap.size ∧ ∀ j u, cs[j]? = some u → w.cell? ⟨b, o + j, none⟩ = some u := by
  obtain ⟨h1, h2, h3, h4, h5⟩ := h
  cases A with
  | none => have := h4 rfl; omega
  | some a =>
    obtain ⟨hb, hc⟩ := h5 a rfl
    obtain ⟨b, o, spot⟩ := a
    have hl : 0 < cs.length := by rw [h1]; exact Nat.mul_pos hn hs
    have hs : spot = none := by simpa [Addr.add] using World.cell?_spot (hc 0 _ (List.getElem?_eq_getElem hl))
    subst hs
    have hadd : ∀ j, (⟨b, o, none⟩ : Addr).add j = ⟨b, o + j, none⟩ := fun j => by unfold Addr.add; split <;> simp_all
    exact ⟨b, o, rfl, hb hn, fun j u hj => by rw [← hadd]; exact hc j u hj⟩
theorem RdC.of_own {base : Nat} {e : TypeId} (h : w.ownsRow base e size (.slice A n c) n cs) : RdC w size A n c cs := by
  obtain ⟨h1, h2⟩ := h
  rcases h2 with ⟨hv, rfl⟩ | ⟨g, cap, cur, hv, hg, hh, hnc, hcm, hsz, htake⟩
  · injection hv with e1 e2 e3
    subst e1 e3
    exact ⟨h1, Nat.le_refl _, by simp [maxLen], fun _ => rfl, fun b h => by cases h⟩
  · injection hv with e1 e2 e3
    subst e1 e3
    refine ⟨h1, hnc, hcm, (fun h => by cases h), fun b hb => ?_⟩
    injection hb with hb
    subst hb
    have hlt : g < w.heap.size := by
      rcases Nat.lt_or_ge g w.heap.size with h | h
      · exact h
      · rw [Array.getElem?_eq_none h] at hh; cases hh
    refine ⟨fun _ => hlt, fun j u hu => ?_⟩
    have e : (⟨g, 0, none⟩ : Addr).add j = ⟨g, j, none⟩ := by unfold Addr.add; split <;> simp_all
    rw [e]
    simp only [World.cell?, hh]
    rw [← htake, List.getElem?_take] at hu
    split at hu
    · rw [← hu]; simp
    · cases hu
theorem rdC_fin (h : Hid (RdC w size A n c cs)) (hb : Below w.heap.size w w') : RdC w' size A n c cs ∧ Below w.heap.size w w' := ⟨h.out.below hb, hb⟩
end

/-- behind an append that has grown: what was there is as it was -/
theorem grown_below {w w' : World} (h : w.grownBy w' none) : Below w.heap.size w w' := (Below.refl _ _).grown h (Nat.le_refl _) (fun k hk => by cases hk)
theorem below_drewN (w : World) (k : Nat) : Below w.heap.size w (w.drewN k) := ⟨rfl, rfl, rfl, Nat.le_refl _, fun _ _ => rfl⟩
theorem Below.drewN {B : Nat} {a w : World} (h : Below B a w) (k : Nat) : Below B a (w.drewN k) := ⟨h.os, h.tape, h.output, h.size, h.block⟩
/-- steps that keep what was there when a region began -/
theorem keep_drew (w : World) : Hid (Below w.heap.size w w.drew) := (Below.refl _ _).drew
theorem keep_call {w x x' : World} (h : Hid (Below w.heap.size w x)) (hb : Below x.heap.size x x') : Hid (Below w.heap.size w x') := h.out.trans (hb.mono h.out.size)
theorem keep_alloc {w x : World} (h : Hid (Below w.heap.size w x)) (o : Obj) : Hid (Below w.heap.size w (x.alloc o)) := h.out.alloc h.out.size o
theorem keep_refl (w : World) : Hid (Below w.heap.size w w) := Below.refl _ _
theorem keep_drew2 {w x : World} (h : Hid (Below w.heap.size w x)) : Hid (Below w.heap.size w x.drew) := h.out.drew
theorem keep_set {w x : World} (h : Hid (Below w.heap.size w x)) {p : Addr} (hp : w.heap.size ≤ p.block) (v : Value) : Hid (Below w.heap.size w (x.setCell p v)) := h.out.setCell hp v
/-- the form of an own row -/
theorem own_slice {w : World} {base size n : Nat} {e : TypeId} {v : Value} {xs : List Value} (h : w.ownsRow base e size v n xs) : ∃ A c, v = .slice A n c ∧ (∀ b, A = some b → base ≤ b.block) := by
  rcases h.2 with ⟨rfl, rfl⟩ | ⟨g, cap, cur, rfl, hg, _⟩
  · exact ⟨none, 0, rfl, fun b h => by cases h⟩
  · exact ⟨_, _, rfl, fun b h => by injection h with h; subst h; exact hg⟩
theorem own_below {w : World} {base size n : Nat} {e : TypeId} {v : Value} {xs : List Value} (h : w.ownsRow base e size v n xs) : ∀ k, v.ownBlock = some k → base ≤ k := by
  intro k hk
  rcases h.2 with ⟨rfl, rfl⟩ | ⟨g, cap, cur, rfl, hg, _⟩
  · cases hk
  · injection hk with hk; subst hk; exact hg

end Go.Proofs.YtijjamiidpikdaaDoor
