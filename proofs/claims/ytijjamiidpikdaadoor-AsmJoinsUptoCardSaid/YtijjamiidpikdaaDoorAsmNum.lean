/-
  The walk of asm.Number: a text's number. Conditions: none.
-/
import Derived.Test.YtijjamiidpikdaaDoorAsmFig
import Derived.Test.YtijjamiidpikdaaDoorAsmShelf
namespace Go.Proofs.YtijjamiidpikdaaDoor.Asm
open Go.RowKit

theorem cut_minus (l : List UInt8) (w : World) :
    Calls Tryd.prog 24 #[.string ⟨l.toArray⟩, .string ⟨#[45]⟩] w fun e w' => e = .returned (.tuple #[.string ⟨(cutM l).1.toArray⟩, .bool (cutM l).2]) ∧ w = w' := by
  refine (Tryd.strings_CutPrefix _ _ _).mono ?_
  rintro e w' ⟨rfl, rfl⟩
  refine ⟨?_, rfl⟩
  cases l with
  | nil => rfl
  | cons c t =>
    by_cases h : c = 45
    · subst h
      simp [cutM, Lib.trimPrefix, Lib.hasPrefix]
    · have h' : ¬ 45 = c := fun e => h e.symm
      have hp : [45].isPrefixOf (c :: t) = false := by
        show ((45 == c) && List.isPrefixOf [] t) = false
        rw [show ((45 : UInt8) == c) = false from by rw [beq_eq_false_iff_ne]; exact h']
        rfl
      simp [cutM, Lib.trimPrefix, Lib.hasPrefix, h, hp]

theorem bytes_eq_iff (a b : List UInt8) : ((⟨a.toArray⟩ : ByteArray).toList = (⟨b.toArray⟩ : ByteArray).toList) ↔ a = b := by
  rw [ByteArray.toList_eq, ByteArray.toList_eq]

set_option maxHeartbeats 1600000 in
theorem number_any (l : List UInt8) (w : World) (hl : l.length ≤ maxLen) :
    Calls Tryd.prog 12 #[.string ⟨l.toArray⟩] w fun e w' => e = .returned (.tuple #[.int .i64 (numV l).1, .bool (numV l).2]) ∧ Below w.heap.size w w' := by
  have hE : Hid (numV l = numT (cutM l).1 (cutM l).2 l) := rfl
  have hcl : (cutM l).1.length ≤ maxLen := by
    cases l with
    | nil => exact hl
    | cons c t =>
      show (if c = 45 then (t, true) else (c :: t, false)).1.length ≤ maxLen
      split
      · simp at hl ⊢; omega
      · exact hl
  unfold maxLen at hl hcl
  go_enter Tryd.func12, Tryd.ntmps12
  go_wp2_with fail
  refine (cut_minus l _).mono ?_
  rintro e w' ⟨rfl, rfl⟩
  generalize (cutM l).1 = t at hE hcl ⊢
  generalize (cutM l).2 = mi at hE ⊢
  by_cases h0 : t = []
  · subst h0
    have hN := hide (show numV l = (0, false) from by rw [hE.out]; unfold numT; rw [if_pos (.inl rfl)])
    clear hE
    go_wp2
    go_ret2
    exact ⟨by rw [hN.out]; rfl, Below.refl _ _⟩
  · by_cases h5 : 5 < t.length
    · have hN := hide (show numV l = (0, false) from by rw [hE.out]; unfold numT; rw [if_pos (.inr h5)])
      clear hE
      go_wp2
      go_ret2
      exact ⟨by rw [hN.out]; rfl, Below.refl _ _⟩
    · have hl5 : t.length ≤ 5 := by omega
      have hne : t.isEmpty = false := by simpa using h0
      have hi5 : (t.length : Int) ≤ 5 := by omega
      have hT := hide h0
      clear h0
      go_wp2
      go_loop [6, 22] (fun v i => ∃ k : Nat, k ≤ t.length ∧ i = .int .i64 k ∧ v = .int .i64 (val (t.take k)) ∧ Hid (∀ c ∈ t.take k, isDig c = true)) (fun _ i => t.length - (intOf i).toNat)
      case atStart => exact ⟨0, Nat.zero_le _, rfl, by simp [val], by intro c hc; simp at hc⟩
      case round =>
        obtain ⟨k, hk, rfl, rfl, hD⟩ := hrel
        have hv := val_lt _ hD.out
        have hv2 : val (t.take k) ≤ 99999 := by
          have h1 : (t.take k).length ≤ 5 := by rw [List.length_take]; omega
          have h3 : 10 ^ (t.take k).length ≤ 10 ^ 5 := Nat.pow_le_pow_right (by omega) h1
          omega
        have HV := hide hv
        clear hv
        by_cases hlt : k < t.length
        · have hk0 : (0 : Int) ≤ (k : Int) := Int.natCast_nonneg _
          have hk1 : (k : Int) < (t.length : Int) := by omega
          have hg : t[k]? = some (t[k]'hlt) := List.getElem?_eq_getElem hlt
          have hbk : (⟨t.toArray⟩ : ByteArray)[k]'(by exact hlt) = t[k]'hlt := rfl
          have hts : Hid (t.take (k + 1) = t.take k ++ [t[k]'hlt]) := by
            show _ = _
            rw [List.take_add_one, hg]
            rfl
          have hmem : t[k]'hlt ∈ t := List.getElem_mem _
          generalize t[k]'hlt = ch at hbk hts hmem
          by_cases hd : isDig ch = true
          · have hd2 := of_decide_eq_true hd
            have q1 : (48 : Int) ≤ (((⟨t.toArray⟩ : ByteArray)[k]'(by exact hlt)).toNat : Int) := by rw [hbk]; omega
            have q2 : (((⟨t.toArray⟩ : ByteArray)[k]'(by exact hlt)).toNat : Int) ≤ 57 := by rw [hbk]; omega
            have HD := hide hd
            have Hbk := hide hbk
            have hv4 : val (t.take k) ≤ 9999 := by
              have h1 : (t.take k).length ≤ 4 := by rw [List.length_take]; omega
              have h3 : 10 ^ (t.take k).length ≤ 10 ^ 4 := Nat.pow_le_pow_right (by omega) h1
              have := HV.out
              omega
            clear hd hbk hg hmem
            go_wp2
            go_round
            case rel => exact ⟨k + 1, by omega, by go_num, by rw [hts.out, val_snoc, Hbk.out]; congr 1; omega, hide (fun c hc => by
              rw [hts.out] at hc
              rcases List.mem_append.1 hc with hc | hc
              · exact hD.out c hc
              · rw [List.mem_singleton] at hc; subst hc; exact HD.out)⟩
            case measure => simp [intOf]; omega
          · have hN := hide (show numV l = (0, false) from by
              rw [hE.out]; unfold numT
              rw [if_neg (by rintro (h | h); exact hT.out h; omega), if_neg]
              intro ha
              rw [List.all_eq_true] at ha
              exact hd (ha ch hmem))
            have hd2 : ¬ (48 ≤ ch.toNat ∧ ch.toNat ≤ 57) := fun h => hd (decide_eq_true h)
            clear hE hd hg hmem
            by_cases h48 : ch.toNat < 48
            · have q1 : (((⟨t.toArray⟩ : ByteArray)[k]'(by exact hlt)).toNat : Int) < 48 := by rw [hbk]; omega
              clear hbk
              go_wp2
              go_ret2
              exact ⟨by rw [hN.out]; rfl, Below.refl _ _⟩
            · have q1 : (48 : Int) ≤ (((⟨t.toArray⟩ : ByteArray)[k]'(by exact hlt)).toNat : Int) := by rw [hbk]; omega
              have q2 : (57 : Int) < (((⟨t.toArray⟩ : ByteArray)[k]'(by exact hlt)).toNat : Int) := by rw [hbk]; omega
              clear hbk
              go_wp2
              go_ret2
              exact ⟨by rw [hN.out]; rfl, Below.refl _ _⟩
        · have hkt : k = t.length := by omega
          subst hkt
          have hk1 : ¬ (t.length : Int) < (t.length : Int) := by omega
          have htk : t.take t.length = t := List.take_of_length_le (Nat.le_refl _)
          have hall : t.all isDig = true := by
            rw [List.all_eq_true]
            have := hD.out
            rwa [htk] at this
          rw [htk] at hv2
          have hN := hide (show numV l = (if figs (if mi = true then -(val t : Int) else (val t : Int)) = l then (if mi = true then -(val t : Int) else (val t : Int), true) else (0, false)) from by
            rw [hE.out]; unfold numT
            rw [if_neg (by rintro (h | h); exact hT.out h; omega), if_pos hall])
          rw [htk]
          generalize val t = v at hv2 hN ⊢
          clear hE htk hall HV hD
          cases mi
          · have hN := hide (show numV l = (if figs (v : Int) = l then ((v : Int), true) else (0, false)) from hN.out)
            by_cases hf : figs (v : Int) = l
            · have hV := hide (show numV l = ((v : Int), true) from by rw [hN.out, if_pos hf])
              clear hN
              subst hf
              go_wp2_with fail
              refine (figures_any (v : Int) _ (by omega) (by omega)).mono ?_
              rintro e w1 ⟨rfl, hb⟩
              go_wp2
              go_ret2
              exact ⟨by rw [hV.out]; rfl, hb⟩
            · have hV := hide (show numV l = (0, false) from by rw [hN.out, if_neg hf])
              clear hN
              have hne : (figs (v : Int) == l) = false := by rw [beq_eq_false_iff_ne]; exact hf
              go_wp2_with fail
              refine (figures_any (v : Int) _ (by omega) (by omega)).mono ?_
              rintro e w1 ⟨rfl, hb⟩
              go_wp2
              go_ret2
              exact ⟨by rw [hV.out]; rfl, hb⟩
          · have hN := hide (show numV l = (if figs (-(v : Int)) = l then (-(v : Int), true) else (0, false)) from hN.out)
            by_cases hf : figs (-(v : Int)) = l
            · have hV := hide (show numV l = (-(v : Int), true) from by rw [hN.out, if_pos hf])
              clear hN
              subst hf
              go_wp2_with fail
              refine (figures_any (-(v : Int)) _ (by omega) (by omega)).mono ?_
              rintro e w1 ⟨rfl, hb⟩
              go_wp2
              go_ret2
              exact ⟨by rw [hV.out]; rfl, hb⟩
            · have hV := hide (show numV l = (0, false) from by rw [hN.out, if_neg hf])
              clear hN
              have hne : (figs (-(v : Int)) == l) = false := by rw [beq_eq_false_iff_ne]; exact hf
              go_wp2_with fail
              refine (figures_any (-(v : Int)) _ (by omega) (by omega)).mono ?_
              rintro e w1 ⟨rfl, hb⟩
              go_wp2
              go_ret2
              exact ⟨by rw [hV.out]; rfl, hb⟩

end Go.Proofs.YtijjamiidpikdaaDoor.Asm
