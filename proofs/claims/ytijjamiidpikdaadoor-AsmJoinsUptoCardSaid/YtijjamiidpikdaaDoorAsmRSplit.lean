/-
  The walk of the reference's split: what stands between blanks. Conditions: at most 2097152 bytes.
-/
import Derived.Test.YtijjamiidpikdaaDoorAsmSplitPlain
import Derived.Test.YtijjamiidpikdaaDoorRowAppend
import Derived.LoopTactic
import Derived.Deep.LoopGhost
import Derived.Outline
import Derived.IntWalk
import Derived.Deep.DeepCutAuto
namespace Go.Proofs.YtijjamiidpikdaaDoor.Asm
open Go.RowKit

theorem infoStr : (Tryd.prog.info? 9).map (fun i => (i.zero, i.size, i.bytes)) = some (some (.string ⟨#[]⟩), 1, 16) := by kernel_rfl
/-- words as cells -/
def strsC (ws : List (List UInt8)) : List Value := ws.map fun w => .string ⟨w.toArray⟩
theorem rdC_str {w : World} {b : Nat} {v : ByteArray} (h0 : w.cell? ⟨b, 0, none⟩ = some (.string v)) : RdC w 1 (some ⟨b, 0, none⟩) 1 1 [.string v] := by
  refine ⟨rfl, Nat.le_refl _, by simp [maxLen], (fun h => by cases h), fun q hq => ?_⟩
  injection hq with hq
  subst hq
  refine ⟨fun _ => World.block_lt_of_cell? _ _ h0, fun j u hu => ?_⟩
  have e : (⟨b, 0, none⟩ : Addr).add j = ⟨b, j, none⟩ := by unfold Addr.add; split <;> simp_all
  rw [e]
  match j, hu with
  | 0, hu => simp at hu; subst hu; exact h0
/-- a part of a text -/
theorem ext_mid (l : List UInt8) (f k : Nat) : (⟨l.toArray⟩ : ByteArray).extract f k = ⟨((l.drop f).take (k - f)).toArray⟩ := by
  apply ByteArray.ext
  rw [ByteArray.data_extract]
  apply Array.toList_inj.1
  simp [List.extract]

/-- where the loop stands: words done, the rest; or all is done -/
def SP (l : List UInt8) (f k : Nat) (ws : List (List UInt8)) : Prop :=
  (k ≤ l.length ∧ f ≤ k ∧ splitW l = ws ++ splitW (l.drop f) ∧ ∀ c ∈ (l.drop f).take (k - f), c ≠ 32) ∨ (k = l.length + 1 ∧ splitW l = ws)

theorem drop_take (l : List UInt8) {p k : Nat} (hpk : p ≤ k) (hk : k < l.length) : l.drop p = (l.drop p).take (k - p) ++ l[k] :: l.drop (k + 1) := by
  have h := (List.take_append_drop (k - p) (l.drop p)).symm
  rw [List.drop_drop, show p + (k - p) = k by omega, List.drop_eq_getElem_cons hk] at h
  exact h
theorem sp_last {l : List UInt8} {k p : Nat} {ws : List (List UInt8)} (hk : k = l.length) (h1 : splitW l = ws ++ splitW (l.drop p)) (h2 : ∀ c ∈ (l.drop p).take (k - p), c ≠ 32) :
    SP l (k + 1) (k + 1) (ws ++ [(l.drop p).take (k - p)]) := by
  refine .inr ⟨by omega, ?_⟩
  rw [← splitW_last _ h2, h1]
  congr 2
  rw [List.take_of_length_le (by simp; omega)]
theorem sp_blank {l : List UInt8} {k p : Nat} {ws : List (List UInt8)} (hk : k < l.length) (hpk : p ≤ k) (h1 : splitW l = ws ++ splitW (l.drop p)) (h2 : ∀ c ∈ (l.drop p).take (k - p), c ≠ 32) (hc : l[k] = 32) :
    SP l (k + 1) (k + 1) (ws ++ [(l.drop p).take (k - p)]) := by
  refine .inl ⟨by omega, Nat.le_refl _, ?_, by simp⟩
  have e := drop_take l hpk hk
  rw [hc] at e
  have e2 := (congrArg splitW e).trans (splitW_word _ _ h2)
  rw [h1, e2]
  simp
theorem sp_next {l : List UInt8} {k p : Nat} {ws : List (List UInt8)} (hk : k < l.length) (hpk : p ≤ k) (h1 : splitW l = ws ++ splitW (l.drop p)) (h2 : ∀ c ∈ (l.drop p).take (k - p), c ≠ 32) (hc : l[k] ≠ 32) :
    SP l p (k + 1) ws := by
  refine .inl ⟨by omega, by omega, h1, ?_⟩
  have e : (l.drop p).take (k + 1 - p) = (l.drop p).take (k - p) ++ [l[k]] := by
    rw [show k + 1 - p = (k - p) + 1 by omega, List.take_add_one]
    congr 1
    rw [List.getElem?_drop, show p + (k - p) = k by omega, List.getElem?_eq_getElem hk]
    rfl
  rw [e]
  intro c hm
  rcases List.mem_append.1 hm with hm | hm
  · exact h2 c hm
  · rw [List.mem_singleton] at hm; subst hm; exact hc
theorem strsC_snoc (ws : List (List UInt8)) (w : List UInt8) : strsC (ws ++ [w]) = strsC ws ++ [.string ⟨w.toArray⟩] := by simp [strsC]
theorem strsC_len (ws : List (List UInt8)) : (strsC ws).length = ws.length := by simp [strsC]
theorem one_str (v : ByteArray) : ∀ u ∈ [Value.string v], u.oneCell' = true := by
  intro u hu
  rw [List.mem_singleton] at hu
  subst hu
  rfl
/-- behind the loop -/
theorem row_fin {w wr : World} {v : Value} {ws : List (List UInt8)} (hO : wr.ownsRow w.heap.size 9 1 v ws.length (strsC ws)) (hB : Below w.heap.size w wr) :
    ∃ A c, v = .slice A ws.length c ∧ RdC wr 1 A ws.length c (strsC ws) ∧ Below w.heap.size w wr := by
  obtain ⟨A, c, e, _⟩ := own_slice hO
  refine ⟨A, c, e, ?_, hB⟩
  rw [e] at hO
  exact RdC.of_own hO

set_option maxHeartbeats 1600000 in
theorem rsplit_any (l : List UInt8) (w : World) (hl : l.length ≤ 2097152) :
    Calls Tryd.prog 30 #[.string ⟨l.toArray⟩] w fun e w' => ∃ A c, e = .returned (.slice A (splitW l).length c) ∧ RdC w' 1 A (splitW l).length c (strsC (splitW l)) ∧ Below w.heap.size w w' := by
  obtain ⟨i0x, hi, hz0, hz1, hz2⟩ := info_parts infoStr
  go_enter Tryd.func30, Tryd.ntmps30
  go_wp2
  go_loopw [3, 4, 5] (fun v f i wr => ∃ (k p : Nat) (V : Value) (ws : List (List UInt8)), V = v ∧ f = .int .i64 p ∧ i = .int .i64 k ∧ p ≤ k + 1 ∧ k ≤ l.length + 1 ∧ ws.length ≤ k ∧ Hid (SP l p k ws) ∧ Hid (wr.ownsRow w.heap.size 9 1 v ws.length (strsC ws)) ∧ Hid (Below w.heap.size w wr)) (fun _ _ i _ => l.length + 1 - (intOf i).toNat)
  case atStart => exact ⟨0, 0, _, [], rfl, rfl, rfl, by omega, by omega, by simp, .inl ⟨Nat.zero_le _, Nat.le_refl _, rfl, by simp⟩, World.ownsRow_nil w _ _ _, Below.refl _ _⟩
  case round =>
    obtain ⟨k, p, V, ws, rfl, rfl, rfl, hp, hk, hwl, hS, hO, hB⟩ := hrel
    have k0 : (0 : Int) ≤ (k : Int) := Int.natCast_nonneg _
    have p0 : (0 : Int) ≤ (p : Int) := Int.natCast_nonneg _
    have hsz := hB.out.size
    by_cases hle : k ≤ l.length
    · have k1 : (k : Int) ≤ (l.length : Int) := by omega
      have hs : p ≤ k ∧ splitW l = ws ++ splitW (l.drop p) ∧ ∀ c ∈ (l.drop p).take (k - p), c ≠ 32 := by
        rcases hS.out with h | h
        · exact h.2
        · omega
      obtain ⟨hpk, hs1, hs2⟩ := hs
      have HS1 := hide hs1
      have HS2 := hide hs2
      have pk : (p : Int) ≤ (k : Int) := by omega
      clear hS hs1 hs2
      by_cases hend : k = l.length
      · have e1 : ((k : Int) == (l.length : Int)) = true := beq_iff_eq.2 (by omega)
        have HE := hide hend
        clear hend
        go_wp2_with (at_builtin; refine wpList_append_rd rfl (.tmp 22) (.tmp 27) 56 rfl w.heap.size 9 i0x _ 1 16 Tryd.underlying56 hi hz0 hz1 hz2 rfl (by omega) V ws.length (strsC ws) rfl (hO.out.alloc _) (some ⟨wr.heap.size, 0, none⟩) 1 1 [.string ((⟨l.toArray⟩ : ByteArray).extract p k)] rfl ?c1 (one_str _) ?c2 ?c3 ?c4 ?_)
        case c1 => exact rdC_str (by go_simp)
        case c2 => unfold maxLen; omega
        case c3 => omega
        case c4 => simp; omega
        intro v' x2 hAp
        have hO2 := hide (show x2.ownsRow w.heap.size 9 1 v' (ws ++ [(l.drop p).take (k - p)]).length (strsC (ws ++ [(l.drop p).take (k - p)])) from by rw [strsC_snoc, ← ext_mid, List.length_append]; exact hAp.own)
        have hB2 := hide (hAp.below (hO.out.alloc _) (hB.out.alloc hB.out.size _) (Nat.le_refl _) (by simp; omega))
        clear hAp hO hB
        go_wp2
        go_roundw
        case rel => exact ⟨k + 1, k + 1, _, _, rfl, by go_num, by go_num, by omega, by omega, by simp; omega, hide (sp_last HE.out HS1.out HS2.out), hO2, hB2⟩
        case measure => simp [intOf]; omega
      · have e1 : ((k : Int) == (l.length : Int)) = false := beq_eq_false_iff_ne.2 (by omega)
        have hlt : k < l.length := by omega
        have k2 : (k : Int) < (l.length : Int) := by omega
        have hbk : (⟨l.toArray⟩ : ByteArray)[k]'(by exact hlt) = l[k]'hlt := rfl
        clear hend hle k1
        by_cases hc : l[k]'hlt = 32
        · have hb1 : (((⟨l.toArray⟩ : ByteArray)[k]'(by exact hlt)).toNat : Int) == 32 := by rw [hbk, hc]; rfl
          have HC := hide hc
          clear hc hbk
          go_wp2_with (at_builtin; refine wpList_append_rd rfl (.tmp 22) (.tmp 27) 56 rfl w.heap.size 9 i0x _ 1 16 Tryd.underlying56 hi hz0 hz1 hz2 rfl (by omega) V ws.length (strsC ws) rfl (hO.out.alloc _) (some ⟨wr.heap.size, 0, none⟩) 1 1 [.string ((⟨l.toArray⟩ : ByteArray).extract p k)] rfl ?c1 (one_str _) ?c2 ?c3 ?c4 ?_)
          case c1 => exact rdC_str (by go_simp)
          case c2 => unfold maxLen; omega
          case c3 => omega
          case c4 => simp; omega
          intro v' x2 hAp
          have hO2 := hide (show x2.ownsRow w.heap.size 9 1 v' (ws ++ [(l.drop p).take (k - p)]).length (strsC (ws ++ [(l.drop p).take (k - p)])) from by rw [strsC_snoc, ← ext_mid, List.length_append]; exact hAp.own)
          have hB2 := hide (hAp.below (hO.out.alloc _) (hB.out.alloc hB.out.size _) (Nat.le_refl _) (by simp; omega))
          clear hAp hO hB
          go_wp2
          go_roundw
          case rel => exact ⟨k + 1, k + 1, _, _, rfl, by go_num, by go_num, by omega, by omega, by simp; omega, hide (sp_blank hlt hpk HS1.out HS2.out HC.out), hO2, hB2⟩
          case measure => simp [intOf]; omega
        · have hb1 : ((((⟨l.toArray⟩ : ByteArray)[k]'(by exact hlt)).toNat : Int) == 32) = false := by
            rw [beq_eq_false_iff_ne, hbk]
            intro e
            exact hc (UInt8.toNat_inj.1 (by simpa using (show (l[k]'hlt).toNat = 32 by omega)))
          have HC := hide hc
          clear hc hbk
          go_wp2
          go_roundw
          case rel => exact ⟨k + 1, p, V, ws, rfl, rfl, by go_num, by omega, by omega, by omega, hide (sp_next hlt hpk HS1.out HS2.out HC.out), hO, hB⟩
          case measure => simp [intOf]; omega
    · have hN := hide (show splitW l = ws from by
        rcases hS.out with h | h
        · omega
        · exact h.2)
      clear hS
      go_wp2
      go_ret
      obtain ⟨A, c, e, hR, hBw⟩ := row_fin hO.out hB.out
      rw [hN.out]
      exact ⟨A, c, by rw [e]; rfl, hR, hBw⟩

end Go.Proofs.YtijjamiidpikdaaDoor.Asm
