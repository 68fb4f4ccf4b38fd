/-
  The argument []Act of PortLast and PortOrder, opened. Conditions: none.
-/
import Derived.Test.YtepnfhjfjjdpkaaPortArgs
import Derived.Test.YtepnfhjfjjdpkaaPortActs0
namespace Go.Proofs.Ytepnfhjfjjdpkaa.Port
open Go.ChangeShapes Go.WideShapes Go.ChangeAt Go.RowKit Go.Joins Go.Deep

theorem cellsAct : Try.prog.cellsOf 37 = 3 := by kernel_rfl
theorem cellsBool : Try.prog.cellsOf 4 = 1 := by kernel_rfl
theorem cellsActs : Try.prog.cellsOf 35 = 1 := by kernel_rfl

theorem open_acts {H : Type} {enc : TypeId × Value → H} {w : World} {held : Bool} {fuel : Nat} {cs : List Value} {x : DataW H × List MemPlace}
    (h : DataW.trod enc Try.prog w 0 (fun _ => true) held fuel 35 cs = some x) :
    ∃ (L : Option Addr) (n c : Nat) (f : Nat → Bool × Int × ByteArray), cs = [.slice L n c] ∧ Acts w L n c f := by
  rcases open_slice Try.underlying35 h with ⟨rfl, _⟩ | ⟨a, len, cap, m, n, D, Pl, rfl, _, hl, hm, hmm, rfl, hi⟩
  · exact ⟨none, 0, 0, fun _ => (false, 0, .empty), rfl, Nat.le_refl _, by simp [maxLen], fun h => by omega⟩
  · simp at hmm
    rw [cellsAct] at hi
    have each : ∀ i, i < m → ∃ g : Bool × Int × ByteArray, w.cell? (a.add (i * 3)) = some (.bool g.1) ∧ w.cell? (a.add (i * 3 + 1)) = some (.int .u64 g.2.1) ∧ w.cell? (a.add (i * 3 + 2)) = some (.string g.2.2) ∧ g.2.2.size ≤ maxLen := by
      intro i hic
      obtain ⟨cs', hc, ht⟩ := hi i hic
      obtain ⟨xs, n', rfl, hx, hlen, hxl, hf⟩ := DataW.trod_struct Try.underlying37 ht
      rw [cellsAct] at hlen
      match cs', hlen with
      | [c0, c1, c2], _ =>
        match xs, hxl with
        | [x0, x1, x2], _ =>
          obtain ⟨a0, e0, _⟩ := DataW.trod_bool Try.underlying4 (x := x0) (by simpa [cellsBool] using hf 0 _ rfl)
          obtain ⟨a1, e1, _, _⟩ := DataW.trod_int Try.underlying27 (x := x1) (by simpa [cellsU64] using hf 1 _ rfl)
          obtain ⟨a2, e2, _, hs⟩ := DataW.trod_string Try.underlying9 (x := x2) (by simpa [cellsStr] using hf 2 _ rfl)
          simp at e0 e1 e2
          subst e0 e1 e2
          obtain ⟨_, hcl, hat⟩ := World.cells?_some hc
          have h0 := hat 0 (by simp)
          have h1 := hat 1 (by simp)
          have h2 := hat 2 (by simp)
          refine ⟨(a0, a1, a2), ?_, ?_, ?_, hs⟩
          · rw [Go.Deep.add_add] at h0
            simpa using h0
          · rw [Go.Deep.add_add] at h1
            simpa using h1
          · rw [Go.Deep.add_add] at h2
            simpa using h2
    obtain ⟨g, hg⟩ := choose_lt (α := Bool × Int × ByteArray) (p := fun i g => w.cell? (a.add (i * 3)) = some (.bool g.1) ∧ w.cell? (a.add (i * 3 + 1)) = some (.int .u64 g.2.1) ∧ w.cell? (a.add (i * 3 + 2)) = some (.string g.2.2) ∧ g.2.2.size ≤ maxLen) each
    refine ⟨some a, len, _, g, rfl, hl, hm, fun h0 => ?_⟩
    have hbl : a.block < w.heap.size := by
      have := World.block_lt_of_cell? _ _ (hg 0 (by omega)).1
      rwa [add_block] at this
    obtain ⟨b, o, spot⟩ := a
    have hsp : spot = none := by simpa [Addr.add] using World.cell?_spot (hg 0 (by omega)).1
    subst hsp
    have hadd : ∀ j, (⟨b, o, none⟩ : Addr).add j = ⟨b, o + j, none⟩ := fun j => by unfold Addr.add; split <;> simp_all
    refine ⟨b, o, rfl, hbl, fun k hk => ?_⟩
    have := hg k (by omega)
    rw [hadd, hadd, hadd] at this
    exact this

end Go.Proofs.Ytepnfhjfjjdpkaa.Port
