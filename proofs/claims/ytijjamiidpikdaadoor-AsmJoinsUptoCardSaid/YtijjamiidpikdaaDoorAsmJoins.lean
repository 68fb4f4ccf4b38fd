/-
  The walk of AsmJoins: of two texts, one behind the other, the programs are read one behind the other. Conditions: the tables as laid; at most 1048576 bytes each.
-/
import Derived.Test.YtijjamiidpikdaaDoorAsmRead
import Derived.Test.YtijjamiidpikdaaDoorAsmPrint
import Derived.Test.YtijjamiidpikdaaDoorAsmNumbers
import Derived.Test.YtijjamiidpikdaaDoorAsmIndex
import Derived.Deep.QuietTactic
import Derived.BigQuiet
import Derived.IntWalk
namespace Go.Proofs.YtijjamiidpikdaaDoor.Asm
open Go.RowKit Go.Proofs.YtijjamiidpikdaaDoor.Isa

theorem rdc_at {w wr : World} {B : Option Addr} {n c : Nat} {L : List Ins} {k : Nat} {i : Ins} (hR : RdC w 4 B n c (cellsI L)) (hb : Below w.heap.size w wr) (hn : 0 < n) (hk : L[k]? = some i) :
    ∃ b o, B = some ⟨b, o, none⟩ ∧ wr.cell? ⟨b, o + k * 4, none⟩ = some (.int .i64 i.1) ∧ wr.cell? ⟨b, o + k * 4 + 1, none⟩ = some (.int .i64 i.2.1) ∧ wr.cell? ⟨b, o + k * 4 + 2, none⟩ = some (.int .i64 i.2.2.1) ∧ wr.cell? ⟨b, o + k * 4 + 3, none⟩ = some (.int .i64 i.2.2.2) := by
  obtain ⟨b, o, rfl, hbl, hc⟩ := hR.lit hn (by omega)
  obtain ⟨c0, c1, c2, c3⟩ := cellsI_get _ _ _ hk
  have c0 := (hb.cell (p := ⟨b, o + k * 4, none⟩) hbl).trans (hc _ _ c0)
  have c1 := (hb.cell (p := ⟨b, o + (k * 4 + 1), none⟩) hbl).trans (hc _ _ c1)
  have c2 := (hb.cell (p := ⟨b, o + (k * 4 + 2), none⟩) hbl).trans (hc _ _ c2)
  have c3 := (hb.cell (p := ⟨b, o + (k * 4 + 3), none⟩) hbl).trans (hc _ _ c3)
  simp only [← Nat.add_assoc] at c0 c1 c2 c3
  exact ⟨b, o, rfl, c0, c1, c2, c3⟩

set_option maxRecDepth 100000 in
set_option maxHeartbeats 3200000 in
theorem joins_walk (s t : List UInt8) (w : World) (hT : Tabs w) (hs : s.length ≤ 1048576) (ht : t.length ≤ 1048576) :
    Calls Tryd.prog 6 #[.string ⟨s.toArray⟩, .string ⟨t.toArray⟩] w fun e w' => e = .returned (.bool true) ∧ Below w.heap.size w w' := by
  have hT' := hide hT
  have HS := hide (show s.length ≤ 2097152 by omega)
  have HT2 := hide (show t.length ≤ 2097152 by omega)
  have HST := hide (show (s ++ t).length ≤ 2097152 by rw [List.length_append]; omega)
  clear hT
  go_enter Tryd.func6, Tryd.ntmps6
  go_wp2_with fail
  refine (shown_any _ hT'.out).mono ?_
  rintro e w1 ⟨rfl, hb⟩
  have hB := hide hb
  clear hb
  go_wp2_with fail
  refine (read_any s HS.out _ (hT'.out.below hB.out)).mono ?_
  rintro e w2 ⟨B1, _, c1, rfl, rfl, hX, hb⟩
  have hB := hide (hB.out.trans (hb.mono hB.out.size))
  have hX := hide hX
  clear hb
  go_wp2_with fail
  refine (read_any t HT2.out _ (hT'.out.below hB.out)).mono ?_
  rintro e w3 ⟨B2, _, c2, rfl, rfl, hY, hb⟩
  have hX := hide (hX.out.below hb)
  have hB := hide (hB.out.trans (hb.mono hB.out.size))
  have hY := hide hY
  clear hb
  go_wp2_with fail
  rw [str_app]
  refine (read_any (s ++ t) HST.out _ (hT'.out.below hB.out)).mono ?_
  rintro e w4 ⟨B3, _, c3, rfl, rfl, hZ, hb⟩
  have hX := hide (hX.out.below hb)
  have hY := hide (hY.out.below hb)
  have hB := hide (hB.out.trans (hb.mono hB.out.size))
  have hZ := hide hZ
  clear hb
  rcases readE_two s with hE | hE
  · rcases readE_two t with hE2 | hE2
    · have hA := hide (read_app hE hE2)
      have hn := hide (And.intro (readN_le s) (readN_le t))
      have hln := hide (And.intro (text_read hE).2.2 (text_read hE2).2.2)
      rw [hA.out.2.2, hE, hE2, hA.out.2.1]
      have hZ := hide (show RdC w4 4 B3 ((readL s).length + (readL t).length) c3 (cellsI (readL s ++ readL t)) from by have h := hZ.out; rw [hA.out.1, List.length_append] at h; exact h)
      rw [hA.out.1, List.length_append, ← hln.out.1, ← hln.out.2]
      have x1 : (readL s).length ≤ 1048576 := by have h1 := hln.out.1; have h2 := hn.out.1; omega
      have y1 : (readL t).length ≤ 1048576 := by have h1 := hln.out.2; have h2 := hn.out.2; omega
      clear hE hE2 hA hn hln
      generalize readL s = X at hX hZ x1 ⊢
      generalize readL t = Y at hY hZ y1 ⊢
      generalize hlx : X.length = lx at hX hZ x1 ⊢
      generalize hly : Y.length = ly at hY hZ y1 ⊢
      have HLX := hide hlx
      have HLY := hide hly
      clear hlx hly
      have x0 : (0 : Int) ≤ (lx : Int) := Int.natCast_nonneg _
      have y0 : (0 : Int) ≤ (ly : Int) := Int.natCast_nonneg _
      go_wp2_with fail
      go_loopw [15] (fun i wr => ∃ k : Nat, k ≤ lx + ly ∧ i = .int .i64 (k : Int) ∧ Hid (Below w4.heap.size w4 wr)) (fun i _ => lx + ly - (intOf i).toNat)
      case atStart => exact ⟨0, Nat.zero_le _, rfl, Below.refl _ _⟩
      case round =>
        obtain ⟨k, hk, rfl, hB4⟩ := hrel
        have k0 : (0 : Int) ≤ (k : Int) := Int.natCast_nonneg _
        by_cases hlt : k < lx + ly
        · have kz : (k : Int) < (lx : Int) + (ly : Int) := by omega
          by_cases hkx : k < lx
          · have hg : X[k]? = some (X[k]'(by rw [HLX.out]; exact hkx)) := List.getElem?_eq_getElem _
            generalize X[k]'(by rw [HLX.out]; exact hkx) = ins at hg
            have hg2 : (X ++ Y)[k]? = some ins := by rw [List.getElem?_append_left (by rw [HLX.out]; exact hkx)]; exact hg
            obtain ⟨op, a, b', im⟩ := ins
            obtain ⟨b1, o1, rfl, p0, p1, p2, p3⟩ := rdc_at hX.out hB4.out (by omega) hg
            obtain ⟨b3, o3, rfl, q0, q1, q2, q3⟩ := rdc_at hZ.out hB4.out (by omega) hg2
            have kx : (k : Int) < (lx : Int) := by omega
            have d1 : decide (k < lx) = true := decide_eq_true hkx
            have d2 : decide (lx ≤ k) = false := decide_eq_false (by omega)
            clear hg hg2
            go_upto_region 12 with fail
            go_quiet (fail)
            go_wp2
            go_roundw
            case rel => exact ⟨k + 1, by omega, by go_num, Go.Proofs.YtijjamiidpikdaaDoor.Below.drewN hB4.out _⟩
            case measure => simp [intOf]; omega
          · have hge : lx ≤ k := by omega
            have hjy : k - lx < ly := by omega
            have hg : Y[k - lx]? = some (Y[k - lx]'(by rw [HLY.out]; exact hjy)) := List.getElem?_eq_getElem _
            generalize Y[k - lx]'(by rw [HLY.out]; exact hjy) = ins at hg
            have hg2 : (X ++ Y)[k]? = some ins := by rw [List.getElem?_append_right (by rw [HLX.out]; omega), HLX.out]; exact hg
            obtain ⟨op, a, b', im⟩ := ins
            obtain ⟨b2, o2, rfl, p0, p1, p2, p3⟩ := rdc_at hY.out hB4.out (by omega) hg
            obtain ⟨b3, o3, rfl, q0, q1, q2, q3⟩ := rdc_at hZ.out hB4.out (by omega) hg2
            have d1 : decide (k < lx) = false := decide_eq_false (by omega)
            have d2 : decide (lx ≤ k) = true := decide_eq_true hge
            have jy : (k : Int) - (lx : Int) < (ly : Int) := by omega
            have j0 : (0 : Int) ≤ (k : Int) - (lx : Int) := by omega
            have t1 : ((k : Int) - (lx : Int)).toNat = k - lx := by omega
            have w1 : IntKind.i64.wrap ((k : Int) - (lx : Int)) = (k : Int) - (lx : Int) := IntWalk.i64_in _ (by omega)
            clear hg hg2
            go_upto_region 12 with fail
            go_quiet (fail)
            clear w1 t1 jy j0
            go_wp2
            go_roundw
            case rel => exact ⟨k + 1, by omega, by go_num, Go.Proofs.YtijjamiidpikdaaDoor.Below.drewN hB4.out _⟩
            case measure => simp [intOf]; omega
        · obtain rfl : k = lx + ly := by omega
          go_wp2_with fail
          go_ret
          exact ⟨rfl, hB.out.trans (hB4.out.mono hB.out.size)⟩
    · rw [hE, hE2]
      clear hE hE2 hX hY hZ
      generalize readE (s ++ t) = e3
      go_wp2_with fail
      go_ret
      exact ⟨rfl, hB.out⟩
  · rw [hE]
    clear hE hX hY hZ
    generalize readE (s ++ t) = e3
    generalize readE t = e2
    go_wp2_with fail
    go_ret
    exact ⟨rfl, hB.out⟩

end Go.Proofs.YtijjamiidpikdaaDoor.Asm
