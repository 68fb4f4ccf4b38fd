/-
  The walk of the reference's Number: a text's number. Conditions: none.
-/
import Derived.Test.YtijjamiidpikdaaDoorAsmNumPlain
import Derived.Test.YtijjamiidpikdaaDoorAsmNum
import Derived.Deep.DeepCutAuto
namespace Go.Proofs.YtijjamiidpikdaaDoor.Asm
open Go.RowKit

theorem ext_one (c : UInt8) (t : List UInt8) : (⟨(c :: t).toArray⟩ : ByteArray).extract 1 (t.length + 1) = ⟨t.toArray⟩ := by
  apply ByteArray.ext
  rw [ByteArray.data_extract]
  apply Array.toList_inj.1
  simp

set_option maxHeartbeats 1600000 in
theorem rnumber_any (l : List UInt8) (w : World) (hl : l.length ≤ maxLen) :
    Calls Tryd.prog 16 #[.string ⟨l.toArray⟩] w fun e w' => e = .returned (.tuple #[.int .i64 (numV l).1, .bool (numV l).2]) ∧ Below w.heap.size w w' := by
  have hE := (numR_eq l).symm
  generalize numV l = N at hE ⊢
  have HE := hide hE
  clear hE
  unfold maxLen at hl
  go_enter Tryd.func16, Tryd.ntmps16
  cases l with
  | nil =>
    have hN := hide (show N = (0, false) from HE.out)
    clear HE
    go_wp2
    go_ret2
    exact ⟨by rw [hN.out]; rfl, Below.refl _ _⟩
  | cons c t =>
    by_cases h : c = 45
    · subst h
      have hV := hide (show N = numR t true from HE.out)
      simp only [List.length_cons] at hl
      clear HE
      go_upto_region 4 with fail
      rw [ext_one]
      obtain ⟨u, hu0⟩ : ∃ u : List UInt8, t = u := ⟨_, rfl⟩
      rw [hu0] at hV hl ⊢
      clear hu0
      by_cases h0 : u = []
      · subst h0
        have hN := hide (show N = (0, false) from hV.out.trans (by unfold numR; rw [if_pos (.inl rfl)]))
        clear hV
        go_wp2
        go_ret2
        exact ⟨by rw [hN.out]; rfl, Below.refl _ _⟩
      · have hpos : 1 ≤ u.length := by have := List.length_pos_iff.2 h0; omega
        have hip : (1 : Int) ≤ (u.length : Int) := by omega
        by_cases h5 : 5 < u.length
        · have hi5 : (5 : Int) < (u.length : Int) := by omega
          have hN := hide (show N = (0, false) from hV.out.trans (by unfold numR; rw [if_pos (.inr (.inl h5))]))
          clear hV
          go_wp2
          go_ret2
          exact ⟨by rw [hN.out]; rfl, Below.refl _ _⟩
        · have hi5 : (u.length : Int) ≤ 5 := by omega
          by_cases hz : zeroAhead u = true
          · have hz2 : 1 < u.length ∧ u.head? = some 48 := by unfold zeroAhead at hz; simpa using hz
            have hi1 : (1 : Int) < (u.length : Int) := by omega
            have hx0 : (((⟨u.toArray⟩ : ByteArray)[0]'(by exact hpos)).toNat : Int) = 48 := by
              have := hz2.2
              cases u with
              | nil => exact absurd rfl h0
              | cons x v => simp at this; subst this; rfl
            have hN := hide (show N = (0, false) from hV.out.trans (by unfold numR; rw [if_pos (.inr (.inr hz))]))
            clear hV hz2 hz
            go_wp2
            go_ret2
            exact ⟨by rw [hN.out]; rfl, Below.refl _ _⟩
          · have H0 := hide h0
            have HZ := hide hz
            have hcase : Hid (u.length = 1) ∨ (((((⟨u.toArray⟩ : ByteArray)[0]'(by exact hpos)).toNat : Int) == 48) = false) := by
              by_cases h1 : u.length = 1
              · exact .inl h1
              · refine .inr ?_
                rw [beq_eq_false_iff_ne]
                intro e
                apply hz
                cases u with
                | nil => exact absurd rfl h0
                | cons x v =>
                  have : x = 48 := UInt8.toNat_inj.1 (by have e2 : (x.toNat : Int) = 48 := e; simpa using (show x.toNat = 48 by omega))
                  subst this
                  unfold zeroAhead
                  simp at h1 ⊢
                  exact List.length_pos_iff.2 (fun e => h1 (by simp [e]))
            clear h0 hz
            rcases hcase with hx1 | hx0
            · have hi1 : ¬ (1 : Int) < (u.length : Int) := by have := hx1.out; omega
              go_wp2_with fail
              go_loop [5, 6] (fun v j => ∃ k : Nat, k ≤ u.length ∧ j = .int .i64 k ∧ v = .int .i64 (val (u.take k)) ∧ Hid (∀ c ∈ u.take k, isDig c = true)) (fun _ j => u.length - (intOf j).toNat)
              case atStart => exact ⟨0, Nat.zero_le _, rfl, by simp [val], by intro c hc; simp at hc⟩
              case round =>
                obtain ⟨k, hk, rfl, rfl, hD⟩ := hrel
                have hv := val_lt _ hD.out
                have hv2 : val (u.take k) ≤ 99999 := by
                  have h1 : (u.take k).length ≤ 5 := by rw [List.length_take]; omega
                  have h3 : 10 ^ (u.take k).length ≤ 10 ^ 5 := Nat.pow_le_pow_right (by omega) h1
                  omega
                have HV := hide hv
                clear hv
                by_cases hlt : k < u.length
                · have hk0 : (0 : Int) ≤ (k : Int) := Int.natCast_nonneg _
                  have hk1 : (k : Int) < (u.length : Int) := by omega
                  have hg : u[k]? = some (u[k]'hlt) := List.getElem?_eq_getElem hlt
                  have hbk : (⟨u.toArray⟩ : ByteArray)[k]'(by exact hlt) = u[k]'hlt := rfl
                  have hts : Hid (u.take (k + 1) = u.take k ++ [u[k]'hlt]) := by
                    show _ = _
                    rw [List.take_add_one, hg]
                    rfl
                  have hmem : u[k]'hlt ∈ u := List.getElem_mem _
                  generalize u[k]'hlt = ch at hbk hts hmem
                  by_cases hd : isDig ch = true
                  · have hd2 := of_decide_eq_true hd
                    have q1 : (48 : Int) ≤ (((⟨u.toArray⟩ : ByteArray)[k]'(by exact hlt)).toNat : Int) := by rw [hbk]; omega
                    have q2 : (((⟨u.toArray⟩ : ByteArray)[k]'(by exact hlt)).toNat : Int) ≤ 57 := by rw [hbk]; omega
                    have HD := hide hd
                    have Hbk := hide hbk
                    have hv4 : val (u.take k) ≤ 9999 := by
                      have h1 : (u.take k).length ≤ 4 := by rw [List.length_take]; omega
                      have h3 : 10 ^ (u.take k).length ≤ 10 ^ 4 := Nat.pow_le_pow_right (by omega) h1
                      have := HV.out
                      omega
                    clear hd hbk hg hmem
                    go_wp2
                    go_round
                    case rel => exact ⟨k + 1, by omega, by go_num, by rw [hts.out, val_snoc, Hbk.out]; congr 1; omega, hide (fun c hc => by
                      rw [hts.out] at hc
                      rcases List.mem_append.1 hc with hc | hc
                      · exact hD.out c hc
                      · rw [List.mem_singleton] at hc; subst hc; exact HD.out)⟩
                    case measure => simp [intOf]; omega
                  · have hN := hide (show N = (0, false) from hV.out.trans (by
                      unfold numR
                      split
                      · rfl
                      · rw [if_neg]
                        intro ha
                        rw [List.all_eq_true] at ha
                        exact hd (ha ch hmem)))
                    have hd2 : ¬ (48 ≤ ch.toNat ∧ ch.toNat ≤ 57) := fun h => hd (decide_eq_true h)
                    clear hV hd hg hmem
                    by_cases h48 : ch.toNat < 48
                    · have q1 : (((⟨u.toArray⟩ : ByteArray)[k]'(by exact hlt)).toNat : Int) < 48 := by rw [hbk]; omega
                      clear hbk
                      go_wp2
                      go_ret2
                      exact ⟨by rw [hN.out]; rfl, Below.refl _ _⟩
                    · have q1 : (48 : Int) ≤ (((⟨u.toArray⟩ : ByteArray)[k]'(by exact hlt)).toNat : Int) := by rw [hbk]; omega
                      have q2 : (57 : Int) < (((⟨u.toArray⟩ : ByteArray)[k]'(by exact hlt)).toNat : Int) := by rw [hbk]; omega
                      clear hbk
                      go_wp2
                      go_ret2
                      exact ⟨by rw [hN.out]; rfl, Below.refl _ _⟩
                · have hkt : k = u.length := by omega
                  subst hkt
                  have hk1 : ¬ (u.length : Int) < (u.length : Int) := by omega
                  have htk : u.take u.length = u := List.take_of_length_le (Nat.le_refl _)
                  have hall : u.all isDig = true := by
                    rw [List.all_eq_true]
                    have := hD.out
                    rwa [htk] at this
                  rw [htk] at hv2
                  have hN := hide (show N = (-(val u : Int), ((val u : Int) != 0)) from hV.out.trans (by
                    unfold numR
                    rw [if_neg (by rintro (h | h | h); exact H0.out h; exact h5 h; exact HZ.out h), if_pos hall]
                    rfl))
                  rw [htk]
                  generalize val u = v at hv2 hN ⊢
                  clear hV htk hall hD HV
                  go_wp2
                  all_goals go_ret2
                  all_goals exact ⟨by rw [hN.out]; simp_all, Below.refl _ _⟩
            · by_cases hi1 : (1 : Int) < (u.length : Int)
              · skip
                go_wp2_with fail
                go_loop [5, 6] (fun v j => ∃ k : Nat, k ≤ u.length ∧ j = .int .i64 k ∧ v = .int .i64 (val (u.take k)) ∧ Hid (∀ c ∈ u.take k, isDig c = true)) (fun _ j => u.length - (intOf j).toNat)
                case atStart => exact ⟨0, Nat.zero_le _, rfl, by simp [val], by intro c hc; simp at hc⟩
                case round =>
                  obtain ⟨k, hk, rfl, rfl, hD⟩ := hrel
                  have hv := val_lt _ hD.out
                  have hv2 : val (u.take k) ≤ 99999 := by
                    have h1 : (u.take k).length ≤ 5 := by rw [List.length_take]; omega
                    have h3 : 10 ^ (u.take k).length ≤ 10 ^ 5 := Nat.pow_le_pow_right (by omega) h1
                    omega
                  have HV := hide hv
                  clear hv
                  by_cases hlt : k < u.length
                  · have hk0 : (0 : Int) ≤ (k : Int) := Int.natCast_nonneg _
                    have hk1 : (k : Int) < (u.length : Int) := by omega
                    have hg : u[k]? = some (u[k]'hlt) := List.getElem?_eq_getElem hlt
                    have hbk : (⟨u.toArray⟩ : ByteArray)[k]'(by exact hlt) = u[k]'hlt := rfl
                    have hts : Hid (u.take (k + 1) = u.take k ++ [u[k]'hlt]) := by
                      show _ = _
                      rw [List.take_add_one, hg]
                      rfl
                    have hmem : u[k]'hlt ∈ u := List.getElem_mem _
                    generalize u[k]'hlt = ch at hbk hts hmem
                    by_cases hd : isDig ch = true
                    · have hd2 := of_decide_eq_true hd
                      have q1 : (48 : Int) ≤ (((⟨u.toArray⟩ : ByteArray)[k]'(by exact hlt)).toNat : Int) := by rw [hbk]; omega
                      have q2 : (((⟨u.toArray⟩ : ByteArray)[k]'(by exact hlt)).toNat : Int) ≤ 57 := by rw [hbk]; omega
                      have HD := hide hd
                      have Hbk := hide hbk
                      have hv4 : val (u.take k) ≤ 9999 := by
                        have h1 : (u.take k).length ≤ 4 := by rw [List.length_take]; omega
                        have h3 : 10 ^ (u.take k).length ≤ 10 ^ 4 := Nat.pow_le_pow_right (by omega) h1
                        have := HV.out
                        omega
                      clear hd hbk hg hmem
                      go_wp2
                      go_round
                      case rel => exact ⟨k + 1, by omega, by go_num, by rw [hts.out, val_snoc, Hbk.out]; congr 1; omega, hide (fun c hc => by
                        rw [hts.out] at hc
                        rcases List.mem_append.1 hc with hc | hc
                        · exact hD.out c hc
                        · rw [List.mem_singleton] at hc; subst hc; exact HD.out)⟩
                      case measure => simp [intOf]; omega
                    · have hN := hide (show N = (0, false) from hV.out.trans (by
                        unfold numR
                        split
                        · rfl
                        · rw [if_neg]
                          intro ha
                          rw [List.all_eq_true] at ha
                          exact hd (ha ch hmem)))
                      have hd2 : ¬ (48 ≤ ch.toNat ∧ ch.toNat ≤ 57) := fun h => hd (decide_eq_true h)
                      clear hV hd hg hmem
                      by_cases h48 : ch.toNat < 48
                      · have q1 : (((⟨u.toArray⟩ : ByteArray)[k]'(by exact hlt)).toNat : Int) < 48 := by rw [hbk]; omega
                        clear hbk
                        go_wp2
                        go_ret2
                        exact ⟨by rw [hN.out]; rfl, Below.refl _ _⟩
                      · have q1 : (48 : Int) ≤ (((⟨u.toArray⟩ : ByteArray)[k]'(by exact hlt)).toNat : Int) := by rw [hbk]; omega
                        have q2 : (57 : Int) < (((⟨u.toArray⟩ : ByteArray)[k]'(by exact hlt)).toNat : Int) := by rw [hbk]; omega
                        clear hbk
                        go_wp2
                        go_ret2
                        exact ⟨by rw [hN.out]; rfl, Below.refl _ _⟩
                  · have hkt : k = u.length := by omega
                    subst hkt
                    have hk1 : ¬ (u.length : Int) < (u.length : Int) := by omega
                    have htk : u.take u.length = u := List.take_of_length_le (Nat.le_refl _)
                    have hall : u.all isDig = true := by
                      rw [List.all_eq_true]
                      have := hD.out
                      rwa [htk] at this
                    rw [htk] at hv2
                    have hN := hide (show N = (-(val u : Int), ((val u : Int) != 0)) from hV.out.trans (by
                      unfold numR
                      rw [if_neg (by rintro (h | h | h); exact H0.out h; exact h5 h; exact HZ.out h), if_pos hall]
                      rfl))
                    rw [htk]
                    generalize val u = v at hv2 hN ⊢
                    clear hV htk hall hD HV
                    go_wp2
                    all_goals go_ret2
                    all_goals exact ⟨by rw [hN.out]; simp_all, Below.refl _ _⟩
              · skip
                go_wp2_with fail
                go_loop [5, 6] (fun v j => ∃ k : Nat, k ≤ u.length ∧ j = .int .i64 k ∧ v = .int .i64 (val (u.take k)) ∧ Hid (∀ c ∈ u.take k, isDig c = true)) (fun _ j => u.length - (intOf j).toNat)
                case atStart => exact ⟨0, Nat.zero_le _, rfl, by simp [val], by intro c hc; simp at hc⟩
                case round =>
                  obtain ⟨k, hk, rfl, rfl, hD⟩ := hrel
                  have hv := val_lt _ hD.out
                  have hv2 : val (u.take k) ≤ 99999 := by
                    have h1 : (u.take k).length ≤ 5 := by rw [List.length_take]; omega
                    have h3 : 10 ^ (u.take k).length ≤ 10 ^ 5 := Nat.pow_le_pow_right (by omega) h1
                    omega
                  have HV := hide hv
                  clear hv
                  by_cases hlt : k < u.length
                  · have hk0 : (0 : Int) ≤ (k : Int) := Int.natCast_nonneg _
                    have hk1 : (k : Int) < (u.length : Int) := by omega
                    have hg : u[k]? = some (u[k]'hlt) := List.getElem?_eq_getElem hlt
                    have hbk : (⟨u.toArray⟩ : ByteArray)[k]'(by exact hlt) = u[k]'hlt := rfl
                    have hts : Hid (u.take (k + 1) = u.take k ++ [u[k]'hlt]) := by
                      show _ = _
                      rw [List.take_add_one, hg]
                      rfl
                    have hmem : u[k]'hlt ∈ u := List.getElem_mem _
                    generalize u[k]'hlt = ch at hbk hts hmem
                    by_cases hd : isDig ch = true
                    · have hd2 := of_decide_eq_true hd
                      have q1 : (48 : Int) ≤ (((⟨u.toArray⟩ : ByteArray)[k]'(by exact hlt)).toNat : Int) := by rw [hbk]; omega
                      have q2 : (((⟨u.toArray⟩ : ByteArray)[k]'(by exact hlt)).toNat : Int) ≤ 57 := by rw [hbk]; omega
                      have HD := hide hd
                      have Hbk := hide hbk
                      have hv4 : val (u.take k) ≤ 9999 := by
                        have h1 : (u.take k).length ≤ 4 := by rw [List.length_take]; omega
                        have h3 : 10 ^ (u.take k).length ≤ 10 ^ 4 := Nat.pow_le_pow_right (by omega) h1
                        have := HV.out
                        omega
                      clear hd hbk hg hmem
                      go_wp2
                      go_round
                      case rel => exact ⟨k + 1, by omega, by go_num, by rw [hts.out, val_snoc, Hbk.out]; congr 1; omega, hide (fun c hc => by
                        rw [hts.out] at hc
                        rcases List.mem_append.1 hc with hc | hc
                        · exact hD.out c hc
                        · rw [List.mem_singleton] at hc; subst hc; exact HD.out)⟩
                      case measure => simp [intOf]; omega
                    · have hN := hide (show N = (0, false) from hV.out.trans (by
                        unfold numR
                        split
                        · rfl
                        · rw [if_neg]
                          intro ha
                          rw [List.all_eq_true] at ha
                          exact hd (ha ch hmem)))
                      have hd2 : ¬ (48 ≤ ch.toNat ∧ ch.toNat ≤ 57) := fun h => hd (decide_eq_true h)
                      clear hV hd hg hmem
                      by_cases h48 : ch.toNat < 48
                      · have q1 : (((⟨u.toArray⟩ : ByteArray)[k]'(by exact hlt)).toNat : Int) < 48 := by rw [hbk]; omega
                        clear hbk
                        go_wp2
                        go_ret2
                        exact ⟨by rw [hN.out]; rfl, Below.refl _ _⟩
                      · have q1 : (48 : Int) ≤ (((⟨u.toArray⟩ : ByteArray)[k]'(by exact hlt)).toNat : Int) := by rw [hbk]; omega
                        have q2 : (57 : Int) < (((⟨u.toArray⟩ : ByteArray)[k]'(by exact hlt)).toNat : Int) := by rw [hbk]; omega
                        clear hbk
                        go_wp2
                        go_ret2
                        exact ⟨by rw [hN.out]; rfl, Below.refl _ _⟩
                  · have hkt : k = u.length := by omega
                    subst hkt
                    have hk1 : ¬ (u.length : Int) < (u.length : Int) := by omega
                    have htk : u.take u.length = u := List.take_of_length_le (Nat.le_refl _)
                    have hall : u.all isDig = true := by
                      rw [List.all_eq_true]
                      have := hD.out
                      rwa [htk] at this
                    rw [htk] at hv2
                    have hN := hide (show N = (-(val u : Int), ((val u : Int) != 0)) from hV.out.trans (by
                      unfold numR
                      rw [if_neg (by rintro (h | h | h); exact H0.out h; exact h5 h; exact HZ.out h), if_pos hall]
                      rfl))
                    rw [htk]
                    generalize val u = v at hv2 hN ⊢
                    clear hV htk hall hD HV
                    go_wp2
                    all_goals go_ret2
                    all_goals exact ⟨by rw [hN.out]; simp_all, Below.refl _ _⟩
    · have hV := hide (show N = numR (c :: t) false from by
        have e : cutM (c :: t) = (c :: t, false) := by
          show (if c = 45 then (t, true) else (c :: t, false)) = _
          rw [if_neg h]
        have := HE.out
        rw [e] at this
        exact this)
      clear HE
      obtain ⟨u, hu⟩ : ∃ u : List UInt8, u = c :: t := ⟨_, rfl⟩
      have hlu : 1 ≤ u.length := by rw [hu]; simp
      have hx : ((((⟨u.toArray⟩ : ByteArray)[0]'(by exact hlu)).toNat : Int) == 45) = false := by
        rw [beq_eq_false_iff_ne]
        subst hu
        intro e
        have e2 : (c.toNat : Int) = 45 := e
        exact h (UInt8.toNat_inj.1 (by simpa using (show c.toNat = 45 by omega)))
      rw [← hu] at hV hl ⊢
      have hq1 : (1 : Int) ≤ (u.length : Int) := by omega
      clear hu h
      go_upto_region 4 with fail
      by_cases h0 : u = []
      · subst h0
        have hN := hide (show N = (0, false) from hV.out.trans (by unfold numR; rw [if_pos (.inl rfl)]))
        clear hV
        go_wp2
        go_ret2
        exact ⟨by rw [hN.out]; rfl, Below.refl _ _⟩
      · have hpos : 1 ≤ u.length := by have := List.length_pos_iff.2 h0; omega
        have hip : (1 : Int) ≤ (u.length : Int) := by omega
        by_cases h5 : 5 < u.length
        · have hi5 : (5 : Int) < (u.length : Int) := by omega
          have hN := hide (show N = (0, false) from hV.out.trans (by unfold numR; rw [if_pos (.inr (.inl h5))]))
          clear hV
          go_wp2
          go_ret2
          exact ⟨by rw [hN.out]; rfl, Below.refl _ _⟩
        · have hi5 : (u.length : Int) ≤ 5 := by omega
          by_cases hz : zeroAhead u = true
          · have hz2 : 1 < u.length ∧ u.head? = some 48 := by unfold zeroAhead at hz; simpa using hz
            have hi1 : (1 : Int) < (u.length : Int) := by omega
            have hx0 : (((⟨u.toArray⟩ : ByteArray)[0]'(by exact hpos)).toNat : Int) = 48 := by
              have := hz2.2
              cases u with
              | nil => exact absurd rfl h0
              | cons x v => simp at this; subst this; rfl
            have hN := hide (show N = (0, false) from hV.out.trans (by unfold numR; rw [if_pos (.inr (.inr hz))]))
            clear hV hz2 hz
            go_wp2
            go_ret2
            exact ⟨by rw [hN.out]; rfl, Below.refl _ _⟩
          · have H0 := hide h0
            have HZ := hide hz
            have hcase : Hid (u.length = 1) ∨ (((((⟨u.toArray⟩ : ByteArray)[0]'(by exact hpos)).toNat : Int) == 48) = false) := by
              by_cases h1 : u.length = 1
              · exact .inl h1
              · refine .inr ?_
                rw [beq_eq_false_iff_ne]
                intro e
                apply hz
                cases u with
                | nil => exact absurd rfl h0
                | cons x v =>
                  have : x = 48 := UInt8.toNat_inj.1 (by have e2 : (x.toNat : Int) = 48 := e; simpa using (show x.toNat = 48 by omega))
                  subst this
                  unfold zeroAhead
                  simp at h1 ⊢
                  exact List.length_pos_iff.2 (fun e => h1 (by simp [e]))
            clear h0 hz
            rcases hcase with hx1 | hx0
            · have hi1 : ¬ (1 : Int) < (u.length : Int) := by have := hx1.out; omega
              go_wp2_with fail
              go_loop [5, 6] (fun v j => ∃ k : Nat, k ≤ u.length ∧ j = .int .i64 k ∧ v = .int .i64 (val (u.take k)) ∧ Hid (∀ c ∈ u.take k, isDig c = true)) (fun _ j => u.length - (intOf j).toNat)
              case atStart => exact ⟨0, Nat.zero_le _, rfl, by simp [val], by intro c hc; simp at hc⟩
              case round =>
                obtain ⟨k, hk, rfl, rfl, hD⟩ := hrel
                have hv := val_lt _ hD.out
                have hv2 : val (u.take k) ≤ 99999 := by
                  have h1 : (u.take k).length ≤ 5 := by rw [List.length_take]; omega
                  have h3 : 10 ^ (u.take k).length ≤ 10 ^ 5 := Nat.pow_le_pow_right (by omega) h1
                  omega
                have HV := hide hv
                clear hv
                by_cases hlt : k < u.length
                · have hk0 : (0 : Int) ≤ (k : Int) := Int.natCast_nonneg _
                  have hk1 : (k : Int) < (u.length : Int) := by omega
                  have hg : u[k]? = some (u[k]'hlt) := List.getElem?_eq_getElem hlt
                  have hbk : (⟨u.toArray⟩ : ByteArray)[k]'(by exact hlt) = u[k]'hlt := rfl
                  have hts : Hid (u.take (k + 1) = u.take k ++ [u[k]'hlt]) := by
                    show _ = _
                    rw [List.take_add_one, hg]
                    rfl
                  have hmem : u[k]'hlt ∈ u := List.getElem_mem _
                  generalize u[k]'hlt = ch at hbk hts hmem
                  by_cases hd : isDig ch = true
                  · have hd2 := of_decide_eq_true hd
                    have q1 : (48 : Int) ≤ (((⟨u.toArray⟩ : ByteArray)[k]'(by exact hlt)).toNat : Int) := by rw [hbk]; omega
                    have q2 : (((⟨u.toArray⟩ : ByteArray)[k]'(by exact hlt)).toNat : Int) ≤ 57 := by rw [hbk]; omega
                    have HD := hide hd
                    have Hbk := hide hbk
                    have hv4 : val (u.take k) ≤ 9999 := by
                      have h1 : (u.take k).length ≤ 4 := by rw [List.length_take]; omega
                      have h3 : 10 ^ (u.take k).length ≤ 10 ^ 4 := Nat.pow_le_pow_right (by omega) h1
                      have := HV.out
                      omega
                    clear hd hbk hg hmem
                    go_wp2
                    go_round
                    case rel => exact ⟨k + 1, by omega, by go_num, by rw [hts.out, val_snoc, Hbk.out]; congr 1; omega, hide (fun c hc => by
                      rw [hts.out] at hc
                      rcases List.mem_append.1 hc with hc | hc
                      · exact hD.out c hc
                      · rw [List.mem_singleton] at hc; subst hc; exact HD.out)⟩
                    case measure => simp [intOf]; omega
                  · have hN := hide (show N = (0, false) from hV.out.trans (by
                      unfold numR
                      split
                      · rfl
                      · rw [if_neg]
                        intro ha
                        rw [List.all_eq_true] at ha
                        exact hd (ha ch hmem)))
                    have hd2 : ¬ (48 ≤ ch.toNat ∧ ch.toNat ≤ 57) := fun h => hd (decide_eq_true h)
                    clear hV hd hg hmem
                    by_cases h48 : ch.toNat < 48
                    · have q1 : (((⟨u.toArray⟩ : ByteArray)[k]'(by exact hlt)).toNat : Int) < 48 := by rw [hbk]; omega
                      clear hbk
                      go_wp2
                      go_ret2
                      exact ⟨by rw [hN.out]; rfl, Below.refl _ _⟩
                    · have q1 : (48 : Int) ≤ (((⟨u.toArray⟩ : ByteArray)[k]'(by exact hlt)).toNat : Int) := by rw [hbk]; omega
                      have q2 : (57 : Int) < (((⟨u.toArray⟩ : ByteArray)[k]'(by exact hlt)).toNat : Int) := by rw [hbk]; omega
                      clear hbk
                      go_wp2
                      go_ret2
                      exact ⟨by rw [hN.out]; rfl, Below.refl _ _⟩
                · have hkt : k = u.length := by omega
                  subst hkt
                  have hk1 : ¬ (u.length : Int) < (u.length : Int) := by omega
                  have htk : u.take u.length = u := List.take_of_length_le (Nat.le_refl _)
                  have hall : u.all isDig = true := by
                    rw [List.all_eq_true]
                    have := hD.out
                    rwa [htk] at this
                  rw [htk] at hv2
                  have hN := hide (show N = ((val u : Int), true) from hV.out.trans (by
                    unfold numR
                    rw [if_neg (by rintro (h | h | h); exact H0.out h; exact h5 h; exact HZ.out h), if_pos hall]
                    rfl))
                  rw [htk]
                  generalize val u = v at hv2 hN ⊢
                  clear hV htk hall hD HV
                  go_wp2
                  all_goals go_ret2
                  all_goals exact ⟨by rw [hN.out]; simp_all, Below.refl _ _⟩
            · by_cases hi1 : (1 : Int) < (u.length : Int)
              · skip
                go_wp2_with fail
                go_loop [5, 6] (fun v j => ∃ k : Nat, k ≤ u.length ∧ j = .int .i64 k ∧ v = .int .i64 (val (u.take k)) ∧ Hid (∀ c ∈ u.take k, isDig c = true)) (fun _ j => u.length - (intOf j).toNat)
                case atStart => exact ⟨0, Nat.zero_le _, rfl, by simp [val], by intro c hc; simp at hc⟩
                case round =>
                  obtain ⟨k, hk, rfl, rfl, hD⟩ := hrel
                  have hv := val_lt _ hD.out
                  have hv2 : val (u.take k) ≤ 99999 := by
                    have h1 : (u.take k).length ≤ 5 := by rw [List.length_take]; omega
                    have h3 : 10 ^ (u.take k).length ≤ 10 ^ 5 := Nat.pow_le_pow_right (by omega) h1
                    omega
                  have HV := hide hv
                  clear hv
                  by_cases hlt : k < u.length
                  · have hk0 : (0 : Int) ≤ (k : Int) := Int.natCast_nonneg _
                    have hk1 : (k : Int) < (u.length : Int) := by omega
                    have hg : u[k]? = some (u[k]'hlt) := List.getElem?_eq_getElem hlt
                    have hbk : (⟨u.toArray⟩ : ByteArray)[k]'(by exact hlt) = u[k]'hlt := rfl
                    have hts : Hid (u.take (k + 1) = u.take k ++ [u[k]'hlt]) := by
                      show _ = _
                      rw [List.take_add_one, hg]
                      rfl
                    have hmem : u[k]'hlt ∈ u := List.getElem_mem _
                    generalize u[k]'hlt = ch at hbk hts hmem
                    by_cases hd : isDig ch = true
                    · have hd2 := of_decide_eq_true hd
                      have q1 : (48 : Int) ≤ (((⟨u.toArray⟩ : ByteArray)[k]'(by exact hlt)).toNat : Int) := by rw [hbk]; omega
                      have q2 : (((⟨u.toArray⟩ : ByteArray)[k]'(by exact hlt)).toNat : Int) ≤ 57 := by rw [hbk]; omega
                      have HD := hide hd
                      have Hbk := hide hbk
                      have hv4 : val (u.take k) ≤ 9999 := by
                        have h1 : (u.take k).length ≤ 4 := by rw [List.length_take]; omega
                        have h3 : 10 ^ (u.take k).length ≤ 10 ^ 4 := Nat.pow_le_pow_right (by omega) h1
                        have := HV.out
                        omega
                      clear hd hbk hg hmem
                      go_wp2
                      go_round
                      case rel => exact ⟨k + 1, by omega, by go_num, by rw [hts.out, val_snoc, Hbk.out]; congr 1; omega, hide (fun c hc => by
                        rw [hts.out] at hc
                        rcases List.mem_append.1 hc with hc | hc
                        · exact hD.out c hc
                        · rw [List.mem_singleton] at hc; subst hc; exact HD.out)⟩
                      case measure => simp [intOf]; omega
                    · have hN := hide (show N = (0, false) from hV.out.trans (by
                        unfold numR
                        split
                        · rfl
                        · rw [if_neg]
                          intro ha
                          rw [List.all_eq_true] at ha
                          exact hd (ha ch hmem)))
                      have hd2 : ¬ (48 ≤ ch.toNat ∧ ch.toNat ≤ 57) := fun h => hd (decide_eq_true h)
                      clear hV hd hg hmem
                      by_cases h48 : ch.toNat < 48
                      · have q1 : (((⟨u.toArray⟩ : ByteArray)[k]'(by exact hlt)).toNat : Int) < 48 := by rw [hbk]; omega
                        clear hbk
                        go_wp2
                        go_ret2
                        exact ⟨by rw [hN.out]; rfl, Below.refl _ _⟩
                      · have q1 : (48 : Int) ≤ (((⟨u.toArray⟩ : ByteArray)[k]'(by exact hlt)).toNat : Int) := by rw [hbk]; omega
                        have q2 : (57 : Int) < (((⟨u.toArray⟩ : ByteArray)[k]'(by exact hlt)).toNat : Int) := by rw [hbk]; omega
                        clear hbk
                        go_wp2
                        go_ret2
                        exact ⟨by rw [hN.out]; rfl, Below.refl _ _⟩
                  · have hkt : k = u.length := by omega
                    subst hkt
                    have hk1 : ¬ (u.length : Int) < (u.length : Int) := by omega
                    have htk : u.take u.length = u := List.take_of_length_le (Nat.le_refl _)
                    have hall : u.all isDig = true := by
                      rw [List.all_eq_true]
                      have := hD.out
                      rwa [htk] at this
                    rw [htk] at hv2
                    have hN := hide (show N = ((val u : Int), true) from hV.out.trans (by
                      unfold numR
                      rw [if_neg (by rintro (h | h | h); exact H0.out h; exact h5 h; exact HZ.out h), if_pos hall]
                      rfl))
                    rw [htk]
                    generalize val u = v at hv2 hN ⊢
                    clear hV htk hall hD HV
                    go_wp2
                    all_goals go_ret2
                    all_goals exact ⟨by rw [hN.out]; simp_all, Below.refl _ _⟩
              · skip
                go_wp2_with fail
                go_loop [5, 6] (fun v j => ∃ k : Nat, k ≤ u.length ∧ j = .int .i64 k ∧ v = .int .i64 (val (u.take k)) ∧ Hid (∀ c ∈ u.take k, isDig c = true)) (fun _ j => u.length - (intOf j).toNat)
                case atStart => exact ⟨0, Nat.zero_le _, rfl, by simp [val], by intro c hc; simp at hc⟩
                case round =>
                  obtain ⟨k, hk, rfl, rfl, hD⟩ := hrel
                  have hv := val_lt _ hD.out
                  have hv2 : val (u.take k) ≤ 99999 := by
                    have h1 : (u.take k).length ≤ 5 := by rw [List.length_take]; omega
                    have h3 : 10 ^ (u.take k).length ≤ 10 ^ 5 := Nat.pow_le_pow_right (by omega) h1
                    omega
                  have HV := hide hv
                  clear hv
                  by_cases hlt : k < u.length
                  · have hk0 : (0 : Int) ≤ (k : Int) := Int.natCast_nonneg _
                    have hk1 : (k : Int) < (u.length : Int) := by omega
                    have hg : u[k]? = some (u[k]'hlt) := List.getElem?_eq_getElem hlt
                    have hbk : (⟨u.toArray⟩ : ByteArray)[k]'(by exact hlt) = u[k]'hlt := rfl
                    have hts : Hid (u.take (k + 1) = u.take k ++ [u[k]'hlt]) := by
                      show _ = _
                      rw [List.take_add_one, hg]
                      rfl
                    have hmem : u[k]'hlt ∈ u := List.getElem_mem _
                    generalize u[k]'hlt = ch at hbk hts hmem
                    by_cases hd : isDig ch = true
                    · have hd2 := of_decide_eq_true hd
                      have q1 : (48 : Int) ≤ (((⟨u.toArray⟩ : ByteArray)[k]'(by exact hlt)).toNat : Int) := by rw [hbk]; omega
                      have q2 : (((⟨u.toArray⟩ : ByteArray)[k]'(by exact hlt)).toNat : Int) ≤ 57 := by rw [hbk]; omega
                      have HD := hide hd
                      have Hbk := hide hbk
                      have hv4 : val (u.take k) ≤ 9999 := by
                        have h1 : (u.take k).length ≤ 4 := by rw [List.length_take]; omega
                        have h3 : 10 ^ (u.take k).length ≤ 10 ^ 4 := Nat.pow_le_pow_right (by omega) h1
                        have := HV.out
                        omega
                      clear hd hbk hg hmem
                      go_wp2
                      go_round
                      case rel => exact ⟨k + 1, by omega, by go_num, by rw [hts.out, val_snoc, Hbk.out]; congr 1; omega, hide (fun c hc => by
                        rw [hts.out] at hc
                        rcases List.mem_append.1 hc with hc | hc
                        · exact hD.out c hc
                        · rw [List.mem_singleton] at hc; subst hc; exact HD.out)⟩
                      case measure => simp [intOf]; omega
                    · have hN := hide (show N = (0, false) from hV.out.trans (by
                        unfold numR
                        split
                        · rfl
                        · rw [if_neg]
                          intro ha
                          rw [List.all_eq_true] at ha
                          exact hd (ha ch hmem)))
                      have hd2 : ¬ (48 ≤ ch.toNat ∧ ch.toNat ≤ 57) := fun h => hd (decide_eq_true h)
                      clear hV hd hg hmem
                      by_cases h48 : ch.toNat < 48
                      · have q1 : (((⟨u.toArray⟩ : ByteArray)[k]'(by exact hlt)).toNat : Int) < 48 := by rw [hbk]; omega
                        clear hbk
                        go_wp2
                        go_ret2
                        exact ⟨by rw [hN.out]; rfl, Below.refl _ _⟩
                      · have q1 : (48 : Int) ≤ (((⟨u.toArray⟩ : ByteArray)[k]'(by exact hlt)).toNat : Int) := by rw [hbk]; omega
                        have q2 : (57 : Int) < (((⟨u.toArray⟩ : ByteArray)[k]'(by exact hlt)).toNat : Int) := by rw [hbk]; omega
                        clear hbk
                        go_wp2
                        go_ret2
                        exact ⟨by rw [hN.out]; rfl, Below.refl _ _⟩
                  · have hkt : k = u.length := by omega
                    subst hkt
                    have hk1 : ¬ (u.length : Int) < (u.length : Int) := by omega
                    have htk : u.take u.length = u := List.take_of_length_le (Nat.le_refl _)
                    have hall : u.all isDig = true := by
                      rw [List.all_eq_true]
                      have := hD.out
                      rwa [htk] at this
                    rw [htk] at hv2
                    have hN := hide (show N = ((val u : Int), true) from hV.out.trans (by
                      unfold numR
                      rw [if_neg (by rintro (h | h | h); exact H0.out h; exact h5 h; exact HZ.out h), if_pos hall]
                      rfl))
                    rw [htk]
                    generalize val u = v at hv2 hN ⊢
                    clear hV htk hall hD HV
                    go_wp2
                    all_goals go_ret2
                    all_goals exact ⟨by rw [hN.out]; simp_all, Below.refl _ _⟩

end Go.Proofs.YtijjamiidpikdaaDoor.Asm
