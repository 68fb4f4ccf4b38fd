/-
  The walk of the reference's Same over programs: are two programs the same. Conditions: none.
-/
import Derived.Test.YtijjamiidpikdaaDoorRow
import Derived.Test.YtijjamiidpikdaaDoorIsaList
import Derived.Deep.QuietTactic
import Derived.BigQuiet
import Derived.LoopTactic
import Derived.Deep.LoopGhost
import Derived.Outline
namespace Go.Proofs.YtijjamiidpikdaaDoor.Isa
open Go.RowKit

/-- alike up to a place -/
def UptoI (k : Nat) (ms ns : List Ins) : Prop := ∀ j, j < k → ms[j]? = ns[j]?

set_option maxHeartbeats 400000 in
theorem same_len (A B : Option Addr) (n c m d : Nat) (w : World) (_hn : n ≤ maxLen) (_hm : m ≤ maxLen) (h : n ≠ m) :
    Calls Tryd.prog 21 #[.slice A n c, .slice B m d] w fun e w' => e = .returned (.bool false) ∧ Below w.heap.size w w' := by
  unfold maxLen at _hn _hm
  have hne : ((n : Int) != (m : Int)) = true := by rw [bne_iff_ne]; omega
  go_enter Tryd.func21, Tryd.ntmps21
  go_wp2
  go_ret
  exact ⟨rfl, Below.refl _ _⟩

set_option maxHeartbeats 3200000 in
theorem same_same (A B : Option Addr) (n c d : Nat) (ms ns : List Ins) (w : World) (hA : RdC w 4 A n c (cellsI ms)) (hB : RdC w 4 B n d (cellsI ns)) (hl1 : ms.length = n) (hl2 : ns.length = n) (r : Bool) (hr : r = true ↔ ms = ns) :
    Calls Tryd.prog 21 #[.slice A n c, .slice B n d] w fun e w' => e = .returned (.bool r) ∧ Below w.heap.size w w' := by
  have hnc := hA.2.1
  have hnd := hB.2.1
  have hcm : c ≤ 9223372036854775807 := hA.2.2.1
  have hA' := hide hA
  have hB' := hide hB
  have hL1 := hide hl1
  have hL2 := hide hl2
  have hr' := hide hr
  clear hA hB hl1 hl2 hr
  go_enter Tryd.func21, Tryd.ntmps21
  go_wp2
  go_loopw [5] (fun i wr => ∃ k q : Nat, k ≤ n ∧ i = .int .i64 k ∧ Hid (UptoI k ms ns) ∧ wr = w.drewN q) (fun i _ => n - (intOf i).toNat)
  case atStart => exact ⟨0, 0, Nat.zero_le _, rfl, (fun j hj => by omega), rfl⟩
  case round =>
    obtain ⟨k, q, hk, rfl, hU, rfl⟩ := hrel
    by_cases hlt : k < n
    · obtain ⟨b, o, rfl, hb, hcA⟩ := hA'.out.lit (by omega) (by omega)
      obtain ⟨b', o', rfl, hb', hcB⟩ := hB'.out.lit (by omega) (by omega)
      have g1 : ms[k]? = some (ms[k]'(by rw [hL1.out]; exact hlt)) := List.getElem?_eq_getElem _
      have g2 : ns[k]? = some (ns[k]'(by rw [hL2.out]; exact hlt)) := List.getElem?_eq_getElem _
      have G1 := hide g1
      have G2 := hide g2
      generalize ms[k]'(by rw [hL1.out]; exact hlt) = m1 at g1 G1
      generalize ns[k]'(by rw [hL2.out]; exact hlt) = m2 at g2 G2
      obtain ⟨x1, x2, x3, x4⟩ := m1
      obtain ⟨y1, y2, y3, y4⟩ := m2
      obtain ⟨p0, p1, p2, p3⟩ := cellsI_get _ _ _ g1
      obtain ⟨q0, q1, q2, q3⟩ := cellsI_get _ _ _ g2
      have p0 := hcA _ _ p0
      have p1 := hcA _ _ p1
      have p2 := hcA _ _ p2
      have p3 := hcA _ _ p3
      have q0 := hcB _ _ q0
      have q1 := hcB _ _ q1
      have q2 := hcB _ _ q2
      have q3 := hcB _ _ q3
      simp only [← Nat.add_assoc] at p0 p1 p2 p3 q0 q1 q2 q3
      clear hcA hcB g1 g2
      have hk0 : (0 : Int) ≤ (k : Int) := Int.natCast_nonneg _
      have hk1 : (k : Int) < (n : Int) := by omega
      by_cases ht : x1 = y1 ∧ x2 = y2 ∧ x3 = y3 ∧ x4 = y4
      · obtain ⟨rfl, rfl, rfl, rfl⟩ := ht
        go_wp2
        go_quiet (fail)
        go_wp2
        go_roundw
        case rel => exact ⟨k + 1, q + nq, by omega, by go_num, (fun j hj => by
          rcases Nat.lt_or_ge j k with h | h
          · exact hU.out j h
          · have : j = k := by omega
            subst this
            rw [G1.out, G2.out]), by first | rfl | rw [World.drewN_drewN]⟩
        case measure => simp [intOf]; omega
      · have hf : r = false := by
          cases hrr : r with
          | false => rfl
          | true =>
            have := hr'.out.1 hrr
            subst this
            have h := G1.out.symm.trans G2.out
            simp at h
            exact absurd h ht
        have fin : ∀ qq : Nat, (Ending.returned (.bool false) = Ending.returned (.bool r) ∧ Below w.heap.size w (w.drewN qq)) := fun qq => ⟨by rw [hf], below_drewN _ _⟩
        by_cases h1 : x1 = y1
        · by_cases h2 : x2 = y2
          · by_cases h3 : x3 = y3
            · have h4 : ¬ x4 = y4 := fun h => ht ⟨h1, h2, h3, h⟩
              have hx : (x4 == y4) = false := by rw [beq_eq_false_iff_ne]; exact h4
              subst h1 h2 h3
              clear ht
              go_wp2
              go_quiet (fail)
              go_wp2
              go_ret
              first | exact fin _ | (rw [World.drewN_drewN]; exact fin _)
            · have hx : (x3 == y3) = false := by rw [beq_eq_false_iff_ne]; exact h3
              subst h1 h2
              clear ht
              go_wp2
              go_quiet (fail)
              go_wp2
              go_ret
              first | exact fin _ | (rw [World.drewN_drewN]; exact fin _)
          · have hx : (x2 == y2) = false := by rw [beq_eq_false_iff_ne]; exact h2
            subst h1
            clear ht
            go_wp2
            go_quiet (fail)
            go_wp2
            go_ret
            first | exact fin _ | (rw [World.drewN_drewN]; exact fin _)
        · have hx : (x1 == y1) = false := by rw [beq_eq_false_iff_ne]; exact h1
          clear ht
          go_wp2
          go_quiet (fail)
          go_wp2
          go_ret
          first | exact fin _ | (rw [World.drewN_drewN]; exact fin _)
    · have hkn : k = n := by omega
      have ht : r = true := hr'.out.2 (List.ext_getElem? fun j => by
        rcases Nat.lt_or_ge j n with h | h
        · exact hU.out j (by omega)
        · rw [List.getElem?_eq_none (by rw [hL1.out]; exact h), List.getElem?_eq_none (by rw [hL2.out]; exact h)])
      clear hkn
      go_wp2
      go_ret
      exact ⟨by rw [ht]; rfl, below_drewN _ _⟩

theorem same_any (A B : Option Addr) (n c m d : Nat) (ms ns : List Ins) (w : World) (hA : RdC w 4 A n c (cellsI ms)) (hB : RdC w 4 B m d (cellsI ns)) (r : Bool) (hr : r = true ↔ ms = ns) :
    Calls Tryd.prog 21 #[.slice A n c, .slice B m d] w fun e w' => e = .returned (.bool r) ∧ Below w.heap.size w w' := by
  have l1 : ms.length = n := by have := hA.1; rw [cellsI_length] at this; omega
  have l2 : ns.length = m := by have := hB.1; rw [cellsI_length] at this; omega
  by_cases h : n = m
  · subst h
    exact same_same A B n c d ms ns w hA hB l1 l2 r hr
  · have hf : r = false := by
      cases hrr : r with
      | false => rfl
      | true =>
        have := hr.1 hrr
        subst this
        exact absurd (l1.symm.trans l2) h
    subst hf
    exact same_len A B n c m d w (Nat.le_trans hA.2.1 hA.2.2.1) (Nat.le_trans hB.2.1 hB.2.2.1) h

end Go.Proofs.YtijjamiidpikdaaDoor.Isa
