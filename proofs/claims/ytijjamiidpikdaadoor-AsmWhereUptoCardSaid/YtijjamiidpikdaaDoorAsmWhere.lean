/-
  The walk of AsmWhere: the line that is told of a text that is none is the first one that isn't a line: with it left out, and all behind, the text is read. Conditions: the tables as laid; at most 2097152 bytes.
-/
import Derived.Test.YtijjamiidpikdaaDoorAsmRead
import Derived.Test.YtijjamiidpikdaaDoorAsmPrint
import Derived.Test.YtijjamiidpikdaaDoorAsmNumbers
import Derived.Test.YtijjamiidpikdaaDoorAsmRRead
namespace Go.Proofs.YtijjamiidpikdaaDoor.Asm
open Go.RowKit Go.Proofs.YtijjamiidpikdaaDoor.Isa

/-- so many lines have been passed, up to there -/
def WP (s : List UInt8) (k p : Nat) : Prop := ∃ L : List (List UInt8), (cutL s).1 = L ++ (cutL (s.drop p)).1 ∧ L.length = k ∧ joinL L = s.take p
theorem wp_start (s : List UInt8) : WP s 0 0 := ⟨[], rfl, rfl, by simp [joinL]⟩
theorem wp_line {s : List UInt8} {k p q : Nat} (h : WP s k p) (hpq : p ≤ q) (hq : q < s.length) (hx : ∀ c ∈ (s.drop p).take (q - p), c ≠ 10) (hc : s[q] = 10) : WP s (k + 1) (q + 1) := by
  obtain ⟨L, h1, h2, h3⟩ := h
  have e := drop_take s hpq hq
  rw [hc] at e
  have e2 := (congrArg cutL e).trans (cutL_line _ _ hx)
  refine ⟨L ++ [(s.drop p).take (q - p)], ?_, by simp [h2], ?_⟩
  · rw [h1, e2]; simp
  · have e3 : joinL (L ++ [(s.drop p).take (q - p)]) = joinL L ++ ((s.drop p).take (q - p) ++ [10]) := by simp [joinL]
    rw [e3, h3]
    have e4 : s.take (q + 1) = s.take p ++ (s.drop p).take (q + 1 - p) := by
      rw [← List.take_append_drop p s]
      simp only [List.take_append_drop]
      conv => lhs; rw [show q + 1 = p + (q + 1 - p) by omega, List.take_add]
    rw [e4]
    congr 1
    rw [show q + 1 - p = (q - p) + 1 by omega, List.take_add_one]
    congr 1
    rw [List.getElem?_drop, show p + (q - p) = q by omega, List.getElem?_eq_getElem hq, hc]
    rfl
theorem wp_head {s : List UInt8} {k p : Nat} (h : WP s k p) : s.take p = headL s k := by
  obtain ⟨L, h1, h2, h3⟩ := h
  unfold headL
  rw [h1, ← h3, ← h2, List.take_left']
  rfl
/-- all lines have been passed -/
theorem wp_all {s : List UInt8} {k p : Nat} (h : WP s k p) (hx : ∀ c ∈ s.drop p, c ≠ 10) : (cutL s).1.length = k := by
  obtain ⟨L, h1, h2, _⟩ := h
  rw [h1, cutL_last _ hx]
  simpa using h2
theorem ext_take (s : List UInt8) (p : Nat) : (⟨s.toArray⟩ : ByteArray).extract 0 p = ⟨(s.take p).toArray⟩ := by
  rw [ext_mid]
  simp

set_option maxRecDepth 100000 in
set_option maxHeartbeats 3200000 in
theorem where_walk (s : List UInt8) (w : World) (hT : Tabs w) (hs : s.length ≤ 2097152) :
    Calls Tryd.prog 7 #[.string ⟨s.toArray⟩] w fun e w' => e = .returned (.bool true) ∧ Below w.heap.size w w' := by
  have hT' := hide hT
  have HS := hide hs
  clear hT hs
  go_enter Tryd.func7, Tryd.ntmps7
  go_wp2_with fail
  refine (shown_any _ hT'.out).mono ?_
  rintro e w1 ⟨rfl, hb⟩
  have hB := hide hb
  clear hb
  go_wp2_with fail
  refine (read_any s HS.out _ (hT'.out.below hB.out)).mono ?_
  rintro e w2 ⟨B1, _, c1, rfl, rfl, hX, hb⟩
  have hB := hide (hB.out.trans (hb.mono hB.out.size))
  have hX := hide hX
  clear hb
  clear hX
  have hnl := hide (And.intro (readN_le s) (prog_len (cutL s).1).1)
  have hhd := hide (read_head s)
  have n0 : (0 : Int) ≤ (readN s : Int) := Int.natCast_nonneg _
  have n1 : (readN s : Int) ≤ 2097152 := by have h1 := readN_le s; have h2 := HS.out; omega
  rcases readE_two s with hE | hE
  · rw [hE]
    clear hE
    go_wp2_with fail
    go_ret
    exact ⟨rfl, hB.out⟩
  · rw [hE]
    clear hE
    have hnc := hide (show readN s ≤ (cutL s).1.length from hnl.out.2)
    generalize readN s = n at hhd n0 n1 hnl hnc ⊢
    generalize (readL s).length = m
    have s1 : (s.length : Int) ≤ 2097152 := by have := HS.out; omega
    go_wp2_with fail
    go_loop [7, 8, 9] (fun kv pv qv => ∃ (k p q : Nat), kv = .int .i64 (k : Int) ∧ pv = .int .i64 (p : Int) ∧ qv = .int .i64 (q : Int) ∧ p ≤ q ∧ q ≤ s.length ∧ k ≤ n ∧ Hid (WP s k p) ∧ Hid (∀ c ∈ (s.drop p).take (q - p), c ≠ 10)) (fun _ _ qv => s.length - (intOf qv).toNat)
    case atStart => exact ⟨0, 0, 0, rfl, rfl, rfl, Nat.le_refl _, Nat.zero_le _, Nat.zero_le _, wp_start s, by intro c hc; simp at hc⟩
    case round =>
      obtain ⟨k, p, q, rfl, rfl, rfl, hpq, hq, hkn, hW, hD⟩ := hrel
      have k0 : (0 : Int) ≤ (k : Int) := Int.natCast_nonneg _
      have p0 : (0 : Int) ≤ (p : Int) := Int.natCast_nonneg _
      have q0 : (0 : Int) ≤ (q : Int) := Int.natCast_nonneg _
      have ps : (p : Int) ≤ (s.length : Int) := by omega
      by_cases hend : q < s.length ∧ k < n
      · obtain ⟨hlt, hkl⟩ := hend
        have q1 : (q : Int) < (s.length : Int) := by omega
        have k1 : (k : Int) < (n : Int) := by omega
        have hbk : (⟨s.toArray⟩ : ByteArray)[q]'(by exact hlt) = s[q]'hlt := rfl
        by_cases hc : s[q]'hlt = 10
        · have t1 : ((((⟨s.toArray⟩ : ByteArray)[q]'(by exact hlt)).toNat : Int) == 10) = true := by rw [hbk, hc]; rfl
          have hW2 := hide (wp_line hW.out hpq hlt hD.out hc)
          clear hc hbk
          go_wp2
          go_round
          case rel => exact ⟨k + 1, q + 1, q + 1, by go_num, by go_num, by go_num, Nat.le_refl _, by omega, by omega, hW2, by rw [Nat.sub_self]; intro c hc; simp at hc⟩
          case measure => simp [intOf]; omega
        · have t1 : ((((⟨s.toArray⟩ : ByteArray)[q]'(by exact hlt)).toNat : Int) == 10) = false := byte_ne (c := (⟨s.toArray⟩ : ByteArray)[q]'(by exact hlt)) (d := 10) (by rw [hbk]; exact hc)
          have hD2 := hide (no10_next hpq hlt hD.out hc)
          clear hc hbk
          go_wp2
          go_round
          case rel => exact ⟨k, p, q + 1, rfl, rfl, by go_num, by omega, by omega, hkn, hW, hD2⟩
          case measure => simp [intOf]; omega
      · have hk : k = n := by
          rcases Nat.lt_or_ge q s.length with h | h
          · rcases Nat.lt_or_ge k n with h2 | h2
            · exact absurd ⟨h, h2⟩ hend
            · omega
          · have e : q = s.length := by omega
            have := wp_all hW.out (by have h := hD.out; rwa [e, List.take_of_length_le (by rw [List.length_drop]; exact Nat.le_refl _)] at h)
            have := hnc.out
            omega
        subst hk
        clear hend hkn
        have hx := hide (wp_head hW.out)
        have hpl := hide (show (s.take p).length ≤ 2097152 from by rw [List.length_take]; have := HS.out; omega)
        by_cases hql : q < s.length
        · have q1 : (q : Int) < (s.length : Int) := by omega
          go_wp2_with fail
          rw [ext_take]
          refine (read_any (s.take p) hpl.out _ (hT'.out.below hB.out)).mono ?_
          rintro e w3 ⟨B3, _, c3, rfl, rfl, hY, hb⟩
          have hB := hide (hB.out.trans (hb.mono hB.out.size))
          have hY := hide hY
          clear hb
          rw [hx.out, hhd.out.1, hhd.out.2]
          clear hY
          go_wp2_with fail
          go_ret
          exact ⟨rfl, hB.out⟩
        · have q1 : ¬ (q : Int) < (s.length : Int) := by omega
          go_wp2_with fail
          rw [ext_take]
          refine (read_any (s.take p) hpl.out _ (hT'.out.below hB.out)).mono ?_
          rintro e w3 ⟨B3, _, c3, rfl, rfl, hY, hb⟩
          have hB := hide (hB.out.trans (hb.mono hB.out.size))
          have hY := hide hY
          clear hb
          rw [hx.out, hhd.out.1, hhd.out.2]
          clear hY
          go_wp2_with fail
          go_ret
          exact ⟨rfl, hB.out⟩

end Go.Proofs.YtijjamiidpikdaaDoor.Asm
