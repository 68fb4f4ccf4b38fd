/-
  The walks of slices.Equal over messages, of box.is and of port.Same: they tell whether the lists are the same. Conditions: none.
-/
import Derived.Test.YtepnfhjfjjdpkaaPortRd
import Derived.Deep.QuietTactic
import Derived.BigQuiet
import Derived.LoopTactic
import Derived.Deep.LoopGhost
import Derived.Outline
namespace Go.Proofs.Ytepnfhjfjjdpkaa.Port
open Go.RowKit

theorem Rd.lit {w : World} {A : Option Addr} {n c : Nat} {ms : List Msg} (h : Rd w A n c ms) (hn : 0 < n) :
    ∃ b o, A = some ⟨b, o, none⟩ ∧ b < w.heap.size ∧ ∀ k m, ms[k]? = some m → w.cell? ⟨b, o + k * 2, none⟩ = some (.int .u64 m.1) ∧ w.cell? ⟨b, o + k * 2 + 1, none⟩ = some (.string m.2) := by
  obtain ⟨h1, h2, h3, h4, h5⟩ := h
  cases A with
  | none => have := h4 rfl; omega
  | some a =>
    obtain ⟨hb, hc⟩ := h5 a rfl
    obtain ⟨b, o, spot⟩ := a
    have hl : 0 < (cellsM ms).length := by rw [cellsM_length]; omega
    have hs : spot = none := by simpa [Addr.add] using World.cell?_spot (hc 0 _ (List.getElem?_eq_getElem hl))
    subst hs
    have hadd : ∀ j, (⟨b, o, none⟩ : Addr).add j = ⟨b, o + j, none⟩ := fun j => by unfold Addr.add; split <;> simp_all
    refine ⟨b, o, rfl, hb hn, fun k m hk => ?_⟩
    obtain ⟨q0, q1⟩ := cellsM_get ms k m hk
    have r0 := hc _ _ q0
    have r1 := hc _ _ q1
    rw [hadd] at r0 r1
    exact ⟨r0, r1⟩

theorem below_drewN (w : World) (k : Nat) : Below w.heap.size w (w.drewN k) := ⟨rfl, rfl, rfl, Nat.le_refl _, fun _ _ => rfl⟩

set_option maxHeartbeats 800000 in
theorem equal_len (A B : Option Addr) (n c m d : Nat) (w : World) (hn : n ≤ maxLen) (hm : m ≤ maxLen) (h : n ≠ m) :
    Calls Try.prog 20 #[.slice A n c, .slice B m d] w fun e w' => e = .returned (.bool false) ∧ Below w.heap.size w w' := by
  unfold maxLen at hn hm
  have hne : ((n : Int) != (m : Int)) = true := by rw [bne_iff_ne]; omega
  go_enter Try.func20, Try.ntmps20
  go_wp2
  go_ret
  exact ⟨rfl, Below.refl _ _⟩

theorem bytes_ne {a b : ByteArray} (h : ¬ a = b) : ¬ a.toList = b.toList := by
  intro e
  rw [ByteArray.toList_eq, ByteArray.toList_eq] at e
  apply h
  obtain ⟨a⟩ := a
  obtain ⟨b⟩ := b
  simp only at e
  rw [Array.toList_inj.1 e]

/-- alike up to a place -/
def Upto (k : Nat) (ms ns : List Msg) : Prop := ∀ j, j < k → ms[j]? = ns[j]?

set_option maxHeartbeats 1600000 in
theorem equal_same (A B : Option Addr) (n c d : Nat) (ms ns : List Msg) (w : World) (hA : Rd w A n c ms) (hB : Rd w B n d ns) (r : Bool) (hr : r = true ↔ ms = ns) :
    Calls Try.prog 20 #[.slice A n c, .slice B n d] w fun e w' => e = .returned (.bool r) ∧ Below w.heap.size w w' := by
  have hnc := hA.2.1
  have hnd := hB.2.1
  have hcm : c ≤ 9223372036854775807 := hA.2.2.1
  have hl1 := hA.1
  have hl2 := hB.1
  have hA' := hide hA
  have hB' := hide hB
  have hL1 := hide hl1
  have hL2 := hide hl2
  have hr' := hide hr
  clear hA hB hl1 hl2 hr
  go_enter Try.func20, Try.ntmps20
  go_wp2
  go_loopw [13] (fun i wr => ∃ k q : Nat, k ≤ n ∧ i = .int .i64 k ∧ Hid (Upto k ms ns) ∧ wr = w.drewN q) (fun i _ => n - (intOf i).toNat)
  case atStart => exact ⟨0, 0, Nat.zero_le _, rfl, (fun j hj => by omega), rfl⟩
  case round =>
    obtain ⟨k, q, hk, rfl, hU, rfl⟩ := hrel
    by_cases hlt : k < n
    · obtain ⟨b, o, rfl, hb, hcA⟩ := hA'.out.lit (by omega)
      obtain ⟨b', o', rfl, hb', hcB⟩ := hB'.out.lit (by omega)
      have g1 : ms[k]? = some (ms[k]'(by rw [hL1.out]; exact hlt)) := List.getElem?_eq_getElem _
      have g2 : ns[k]? = some (ns[k]'(by rw [hL2.out]; exact hlt)) := List.getElem?_eq_getElem _
      have G1 := hide g1
      have G2 := hide g2
      generalize ms[k]'(by rw [hL1.out]; exact hlt) = m1 at g1 G1
      generalize ns[k]'(by rw [hL2.out]; exact hlt) = m2 at g2 G2
      obtain ⟨t1, s1⟩ := m1
      obtain ⟨t2, s2⟩ := m2
      obtain ⟨p0, p1⟩ := hcA k _ g1
      obtain ⟨p2, p3⟩ := hcB k _ g2
      simp only at p0 p1 p2 p3
      clear hcA hcB g1 g2
      have hk0 : (0 : Int) ≤ (k : Int) := Int.natCast_nonneg _
      have hk1 : (k : Int) < (n : Int) := by omega
      by_cases ht : t1 = t2
      · subst ht
        by_cases hs : s1 = s2
        · subst hs
          go_wp2
          go_quiet (fail)
          go_wp2
          go_roundw
          case rel => exact ⟨k + 1, q + nq, by omega, by go_num, (fun j hj => by
            rcases Nat.lt_or_ge j k with h | h
            · exact hU.out j h
            · have : j = k := by omega
              subst this
              rw [G1.out, G2.out]), by first | rfl | rw [World.drewN_drewN]⟩
          case measure => simp [intOf]; omega
        · have hs' : ¬ s1.toList = s2.toList := bytes_ne hs
          have hf : r = false := by
            cases hrr : r with
            | false => rfl
            | true =>
              have := hr'.out.1 hrr
              subst this
              have h := G1.out.symm.trans G2.out
              simp at h
              exact absurd h hs
          go_wp2
          go_quiet (fail)
          go_wp2
          go_ret
          exact ⟨by rw [hf]; rfl, by first | exact below_drewN _ _ | (rw [World.drewN_drewN]; exact below_drewN _ _)⟩
      · have ht' : (t1 == t2) = false := by rw [beq_eq_false_iff_ne]; exact ht
        have hf : r = false := by
          cases hrr : r with
          | false => rfl
          | true =>
            have := hr'.out.1 hrr
            subst this
            have h := G1.out.symm.trans G2.out
            simp at h
            exact absurd h.1 ht
        go_wp2
        go_quiet (fail)
        go_wp2
        go_ret
        exact ⟨by rw [hf]; rfl, by first | exact below_drewN _ _ | (rw [World.drewN_drewN]; exact below_drewN _ _)⟩
    · have hkn : k = n := by omega
      have ht : r = true := hr'.out.2 (List.ext_getElem? fun j => by
        rcases Nat.lt_or_ge j n with h | h
        · exact hU.out j (by omega)
        · rw [List.getElem?_eq_none (by rw [hL1.out]; exact h), List.getElem?_eq_none (by rw [hL2.out]; exact h)])
      clear hkn
      go_wp2
      go_ret
      exact ⟨by rw [ht]; rfl, by first | exact below_drewN _ _ | (rw [World.drewN_drewN]; exact below_drewN _ _)⟩


theorem equal_any (A B : Option Addr) (n c m d : Nat) (ms ns : List Msg) (w : World) (hA : Rd w A n c ms) (hB : Rd w B m d ns) (r : Bool) (hr : r = true ↔ ms = ns) :
    Calls Try.prog 20 #[.slice A n c, .slice B m d] w fun e w' => e = .returned (.bool r) ∧ Below w.heap.size w w' := by
  by_cases h : n = m
  · subst h
    exact equal_same A B n c d ms ns w hA hB r hr
  · have hf : r = false := by
      cases hrr : r with
      | false => rfl
      | true =>
        have := hr.1 hrr
        subst this
        exact absurd (hA.1.symm.trans hB.1) h
    subst hf
    exact equal_len A B n c m d w (Nat.le_trans hA.2.1 hA.2.2.1) (Nat.le_trans hB.2.1 hB.2.2.1) h

set_option maxHeartbeats 800000 in
theorem is_any (A B : Option Addr) (n c m d : Nat) (ms ns : List Msg) (w : World) (hA : Rd w A n c ms) (hB : Rd w B m d ns) (r : Bool) (hr : r = true ↔ ms = ns) :
    Calls Try.prog 19 #[.slice A n c, .slice B m d] w fun e w' => e = .returned (.bool r) ∧ Below w.heap.size w w' := by
  have hr' := hide hr
  have hA' := hide hA
  have hB' := hide hB
  clear hr hA hB
  go_enter Try.func19, Try.ntmps19
  go_wp2_with fail
  refine (equal_any A B n c m d ms ns _ hA'.out hB'.out r hr'.out).mono ?_
  rintro e w1 ⟨rfl, hb⟩
  go_wp2
  go_ret
  exact ⟨rfl, hb⟩

set_option maxHeartbeats 800000 in
theorem same_any (A B : Option Addr) (n c m d : Nat) (lost lost' : Int) (ms ns : List Msg) (w : World) (hA : Rd w A n c ms) (hB : Rd w B m d ns) (r : Bool) (hr : r = true ↔ ms = ns ∧ lost = lost') :
    Calls Try.prog 18 #[.agg #[.slice A n c, .int .i64 lost], .agg #[.slice B m d, .int .i64 lost']] w fun e w' => e = .returned (.bool r) ∧ Below w.heap.size w w' := by
  have hr' := hide hr
  have hA' := hide hA
  have hB' := hide hB
  clear hr hA hB
  by_cases hl : lost = lost'
  · subst hl
    have hr2 := hide (show r = true ↔ ms = ns from ⟨fun h => (hr'.out.1 h).1, fun h => hr'.out.2 ⟨h, rfl⟩⟩)
    clear hr'
    go_enter Try.func18, Try.ntmps18
    go_wp2_with fail
    refine (is_any A B n c m d ms ns _ (by exact (hA'.out.alloc _).alloc _) (by exact (hB'.out.alloc _).alloc _) r hr2.out).mono ?_
    rintro e w1 ⟨rfl, hb⟩
    have hE := hide (below_call2 hb)
    go_wp2
    go_ret
    exact ⟨rfl, hE.out⟩
  · have hl' : (lost == lost') = false := by rw [beq_eq_false_iff_ne]; exact hl
    have hf : r = false := by
      cases hrr : r with
      | false => rfl
      | true => exact absurd (hr'.out.1 hrr).2 hl
    go_enter Try.func18, Try.ntmps18
    go_wp2
    go_ret
    exact ⟨by rw [hf]; rfl, (below_new _ _).alloc (by simp) _⟩

end Go.Proofs.Ytepnfhjfjjdpkaa.Port
