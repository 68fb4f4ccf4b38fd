/-
  The walk of the reference's Same: it tells whether the lists are the same. Conditions: none.
-/
import Derived.Test.YtepnfhjfjjdpkaaPortEq
namespace Go.Proofs.Ytepnfhjfjjdpkaa.Port
open Go.RowKit

set_option maxHeartbeats 800000 in
theorem rsame_len (A B : Option Addr) (n c m d : Nat) (lost lost' : Int) (w : World) (hn : n ≤ maxLen) (hm : m ≤ maxLen) (h : n ≠ m) :
    Calls Try.prog 16 #[.agg #[.slice A n c, .int .i64 lost], .agg #[.slice B m d, .int .i64 lost']] w fun e w' => e = .returned (.bool false) ∧ Below w.heap.size w w' := by
  unfold maxLen at hn hm
  have hne : ((n : Int) != (m : Int)) = true := by rw [bne_iff_ne]; omega
  go_enter Try.func16, Try.ntmps16
  go_wp2
  go_ret
  exact ⟨rfl, (below_new _ _).alloc (by simp) _⟩

set_option maxHeartbeats 800000 in
theorem rsame_lost (A B : Option Addr) (n c d : Nat) (lost lost' : Int) (w : World) (hn : n ≤ maxLen) (h : lost ≠ lost') :
    Calls Try.prog 16 #[.agg #[.slice A n c, .int .i64 lost], .agg #[.slice B n d, .int .i64 lost']] w fun e w' => e = .returned (.bool false) ∧ Below w.heap.size w w' := by
  unfold maxLen at hn
  have hne : (lost != lost') = true := by rw [bne_iff_ne]; exact h
  go_enter Try.func16, Try.ntmps16
  go_wp2
  go_ret
  exact ⟨rfl, (below_new _ _).alloc (by simp) _⟩

set_option maxHeartbeats 1600000 in
theorem rsame_same (A B : Option Addr) (n c d : Nat) (lost : Int) (ms ns : List Msg) (w : World) (hA : Rd w A n c ms) (hB : Rd w B n d ns) (r : Bool) (hr : r = true ↔ ms = ns) :
    Calls Try.prog 16 #[.agg #[.slice A n c, .int .i64 lost], .agg #[.slice B n d, .int .i64 lost]] w fun e w' => e = .returned (.bool r) ∧ Below w.heap.size w w' := by
  have hnc := hA.2.1
  have hnd := hB.2.1
  have hcm : c ≤ 9223372036854775807 := hA.2.2.1
  have hl1 := hA.1
  have hl2 := hB.1
  have hA' := hide hA
  have hB' := hide hB
  have hL1 := hide hl1
  have hL2 := hide hl2
  have hr' := hide hr
  clear hA hB hl1 hl2 hr
  go_enter Try.func16, Try.ntmps16
  go_wp2
  have hA2 := hide (((hA'.out.alloc (.cells #[.slice A n c, .int .i64 lost] 26)).alloc (.cells #[.slice B n d, .int .i64 lost] 26)))
  have hB2 := hide (((hB'.out.alloc (.cells #[.slice A n c, .int .i64 lost] 26)).alloc (.cells #[.slice B n d, .int .i64 lost] 26)))
  have x0 : ((w.alloc (.cells #[.slice A n c, .int .i64 lost] 26)).alloc (.cells #[.slice B n d, .int .i64 lost] 26)).cell? ⟨w.heap.size, 0, none⟩ = some (.slice A n c) := by go_simp
  have x1 : ((w.alloc (.cells #[.slice A n c, .int .i64 lost] 26)).alloc (.cells #[.slice B n d, .int .i64 lost] 26)).cell? ⟨w.heap.size + 1, 0, none⟩ = some (.slice B n d) := by go_simp
  have hW : Below w.heap.size w ((w.alloc (.cells #[.slice A n c, .int .i64 lost] 26)).alloc (.cells #[.slice B n d, .int .i64 lost] 26)) := (below_new _ _).alloc (by simp) _
  have HW := hide hW
  clear hW hA' hB'
  generalize ((w.alloc (.cells #[.slice A n c, .int .i64 lost] 26)).alloc (.cells #[.slice B n d, .int .i64 lost] 26)) = W at hA2 hB2 x0 x1 HW ⊢
  go_loopw [5] (fun i wr => ∃ k q : Nat, k ≤ n ∧ i = .int .i64 k ∧ Hid (Upto k ms ns) ∧ wr = W.drewN q) (fun i _ => n - (intOf i).toNat)
  case atStart => exact ⟨0, 0, Nat.zero_le _, rfl, (fun j hj => by omega), rfl⟩
  case round =>
    obtain ⟨k, q, hk, rfl, hU, rfl⟩ := hrel
    by_cases hlt : k < n
    · obtain ⟨b, o, rfl, hb, hcA⟩ := hA2.out.lit (by omega)
      obtain ⟨b', o', rfl, hb', hcB⟩ := hB2.out.lit (by omega)
      have g1 : ms[k]? = some (ms[k]'(by rw [hL1.out]; exact hlt)) := List.getElem?_eq_getElem _
      have g2 : ns[k]? = some (ns[k]'(by rw [hL2.out]; exact hlt)) := List.getElem?_eq_getElem _
      have G1 := hide g1
      have G2 := hide g2
      generalize ms[k]'(by rw [hL1.out]; exact hlt) = m1 at g1 G1
      generalize ns[k]'(by rw [hL2.out]; exact hlt) = m2 at g2 G2
      obtain ⟨t1, s1⟩ := m1
      obtain ⟨t2, s2⟩ := m2
      obtain ⟨p0, p1⟩ := hcA k _ g1
      obtain ⟨p2, p3⟩ := hcB k _ g2
      simp only at p0 p1 p2 p3
      clear hcA hcB g1 g2
      have hk0 : (0 : Int) ≤ (k : Int) := Int.natCast_nonneg _
      have hk1 : (k : Int) < (n : Int) := by omega
      by_cases ht : t1 = t2
      · subst ht
        by_cases hs : s1 = s2
        · subst hs
          go_wp2
          go_quiet (fail)
          go_wp2
          go_roundw
          case rel => exact ⟨k + 1, q + nq, by omega, by go_num, (fun j hj => by
            rcases Nat.lt_or_ge j k with h | h
            · exact hU.out j h
            · have : j = k := by omega
              subst this
              rw [G1.out, G2.out]), by first | rfl | rw [World.drewN_drewN]⟩
          case measure => simp [intOf]; omega
        · have hs' : ¬ s1.toList = s2.toList := bytes_ne hs
          have hf : r = false := by
            cases hrr : r with
            | false => rfl
            | true =>
              have := hr'.out.1 hrr
              subst this
              have h := G1.out.symm.trans G2.out
              simp at h
              exact absurd h hs
          go_wp2
          go_quiet (fail)
          go_wp2
          go_ret
          exact ⟨by rw [hf]; rfl, by first | (rw [World.drewN_drewN]; exact HW.out.trans ((below_drewN _ _).mono HW.out.size)) | exact HW.out.trans ((below_drewN _ _).mono HW.out.size)⟩
      · have ht' : (t1 == t2) = false := by rw [beq_eq_false_iff_ne]; exact ht
        have hf : r = false := by
          cases hrr : r with
          | false => rfl
          | true =>
            have := hr'.out.1 hrr
            subst this
            have h := G1.out.symm.trans G2.out
            simp at h
            exact absurd h.1 ht
        go_wp2
        go_quiet (fail)
        go_wp2
        go_ret
        exact ⟨by rw [hf]; rfl, by first | (rw [World.drewN_drewN]; exact HW.out.trans ((below_drewN _ _).mono HW.out.size)) | exact HW.out.trans ((below_drewN _ _).mono HW.out.size)⟩
    · have hkn : k = n := by omega
      have ht : r = true := hr'.out.2 (List.ext_getElem? fun j => by
        rcases Nat.lt_or_ge j n with h | h
        · exact hU.out j (by omega)
        · rw [List.getElem?_eq_none (by rw [hL1.out]; exact h), List.getElem?_eq_none (by rw [hL2.out]; exact h)])
      clear hkn
      go_wp2
      go_ret
      exact ⟨by rw [ht]; rfl, by first | (rw [World.drewN_drewN]; exact HW.out.trans ((below_drewN _ _).mono HW.out.size)) | exact HW.out.trans ((below_drewN _ _).mono HW.out.size)⟩

theorem rsame_any (A B : Option Addr) (n c m d : Nat) (lost lost' : Int) (ms ns : List Msg) (w : World) (hA : Rd w A n c ms) (hB : Rd w B m d ns) (r : Bool) (hr : r = true ↔ ms = ns ∧ lost = lost') :
    Calls Try.prog 16 #[.agg #[.slice A n c, .int .i64 lost], .agg #[.slice B m d, .int .i64 lost']] w fun e w' => e = .returned (.bool r) ∧ Below w.heap.size w w' := by
  have no : (¬ (ms = ns ∧ lost = lost')) → r = false := fun h => by
    cases hrr : r with
    | false => rfl
    | true => exact absurd (hr.1 hrr) h
  by_cases h : n = m
  · subst h
    by_cases hl : lost = lost'
    · subst hl
      exact rsame_same A B n c d lost ms ns w hA hB r ⟨fun h => (hr.1 h).1, fun h => hr.2 ⟨h, rfl⟩⟩
    · obtain rfl := no (fun h => hl h.2)
      exact rsame_lost A B n c d lost lost' w (Nat.le_trans hA.2.1 hA.2.2.1) hl
  · obtain rfl := no (fun e => h (by rw [← hA.1, ← hB.1, e.1]))
    exact rsame_len A B n c m d lost lost' w (Nat.le_trans hA.2.1 hA.2.2.1) (Nat.le_trans hB.2.1 hB.2.2.1) h

end Go.Proofs.Ytepnfhjfjjdpkaa.Port
