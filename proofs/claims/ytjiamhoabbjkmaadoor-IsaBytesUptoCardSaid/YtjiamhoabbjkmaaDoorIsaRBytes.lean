/-
  The walk of the reference's Bytes: a program's bytes. Conditions: at most 1048576 instructions.
-/
import Derived.Test.YtjiamhoabbjkmaaDoorIsaBytesW
import Derived.Test.YtjiamhoabbjkmaaDoorIsaRefW
import Derived.Test.YtjiamhoabbjkmaaDoorRowAppend
import Derived.Test.YtjiamhoabbjkmaaDoorIsaBackW
import Derived.Laws.BytesArg
import Derived.Laws.IdiomStrings
import Derived.Deep.DeepCutAuto
namespace Go.Proofs.YtjiamhoabbjkmaaDoor.Isa
open Go.RowKit

theorem infoU8 : (Tryd.prog.info? 5).map (fun i => (i.zero, i.size, i.bytes)) = some (some (.int .u8 0), 1, 1) := by kernel_rfl

/-- four cells in a block of their own -/
theorem rdC_four {w : World} {b : Nat} {o x y z : Int} (h0 : w.cell? ⟨b, 0, none⟩ = some (.int .u8 o)) (h1 : w.cell? ⟨b, 1, none⟩ = some (.int .u8 x)) (h2 : w.cell? ⟨b, 2, none⟩ = some (.int .u8 y)) (h3 : w.cell? ⟨b, 3, none⟩ = some (.int .u8 z)) :
    RdC w 1 (some ⟨b, 0, none⟩) 4 4 [.int .u8 o, .int .u8 x, .int .u8 y, .int .u8 z] := by
  refine ⟨rfl, Nat.le_refl _, by simp [maxLen], (fun h => by cases h), fun q hq => ?_⟩
  injection hq with hq
  subst hq
  refine ⟨fun _ => World.block_lt_of_cell? _ _ h0, fun j u hu => ?_⟩
  have e : (⟨b, 0, none⟩ : Addr).add j = ⟨b, j, none⟩ := by unfold Addr.add; split <;> simp_all
  rw [e]
  match j, hu with
  | 0, hu => simp at hu; subst hu; exact h0
  | 1, hu => simp at hu; subst hu; exact h1
  | 2, hu => simp at hu; subst hu; exact h2
  | 3, hu => simp at hu; subst hu; exact h3
theorem one_four (o x y z : Int) : ∀ u ∈ [Value.int .u8 o, Value.int .u8 x, Value.int .u8 y, Value.int .u8 z], u.oneCell' = true := by simp [Value.oneCell']
/-- a word's four bytes as cells -/
theorem four_cells (p : List UInt8) (x : Int) (h0 : 0 ≤ x) (h1 : x < 4294967296) :
    Lib.byteCells p ++ [.int .u8 (x % 256), .int .u8 (x / 256 % 256), .int .u8 (x / 65536 % 256), .int .u8 (x / 16777216)] = Lib.byteCells (p ++ four x) := by
  have key : ∀ y : Int, 0 ≤ y → ((UInt8.ofNat (y % 256).toNat).toNat : Int) = y % 256 := fun y hy => by
    simp
    omega
  rw [Lib.byteCells_append, show x / 16777216 = x / 16777216 % 256 by omega]
  congr 1
  simp only [Lib.byteCells, four, List.map_cons, List.map_nil]
  rw [key x h0, key (x / 256) (by omega), key (x / 65536) (by omega), key (x / 16777216) (by omega)]
/-- a row's bytes as a string -/
theorem conv_row {w : World} {A : Option Addr} {n c : Nat} {l : List UInt8} (h : RdC w 1 A n c (Lib.byteCells l)) :
    (convert 57 9 (.slice A n c)).run Tryd.prog w = .ok (.string ⟨l.toArray⟩) w := by
  have hl : l.length = n := by have := h.1; rw [Lib.byteCells_length] at this; omega
  cases A with
  | none =>
    have hc : c = 0 := h.2.2.2.1 rfl
    have hn : n = 0 := by have := h.2.1; omega
    have : l = [] := List.eq_nil_of_length_eq_zero (by omega)
    subst this
    exact run_convert_bytes_nil w _ _ Tryd.underlying57 Tryd.underlying5 _ _ _ Tryd.underlying9
  | some a =>
    subst hl
    refine run_convert_bytes_back (P := Tryd.prog) w 57 9 5 a c l Tryd.underlying57 Tryd.underlying5 Tryd.underlying9 (fun j hj => ?_)
    refine (h.2.2.2.2 a rfl).2 j _ ?_
    simp [Lib.byteCells, List.getElem?_eq_getElem hj]

set_option maxHeartbeats 3200000 in
theorem rbytes_any (A : Option Addr) (n c : Nat) (l : List Ins) (w : World) (hR : RdC w 4 A n c (cellsI l)) (hl : l.length = n) (hn : n ≤ 1048576) :
    Calls Tryd.prog 20 #[.slice A n c] w fun e w' => e = .returned (.tuple #[.string (bytesR l), .int .i64 (bytesE l)]) ∧ Below w.heap.size w w' := by
  have hR' := hide hR
  have hnc := hR.2.1
  have hcm : c ≤ 9223372036854775807 := hR.2.2.1
  have HL := hide hl
  clear hR hl
  obtain ⟨i0x, hi, hz0, hz1, hz2⟩ := info_parts infoU8
  go_enter Tryd.func20, Tryd.ntmps20
  go_wp2
  go_loopw [4, 5] (fun v i wr => ∃ (k : Nat) (V : Value), V = v ∧ k ≤ n ∧ i = .int .i64 k ∧ Hid (allM l k) ∧ Hid (wr.ownsRow w.heap.size 5 1 v (4 * k) (Lib.byteCells (bytesI (l.take k)))) ∧ Hid (Below w.heap.size w wr)) (fun _ i _ => n - (intOf i).toNat)
  case atStart => exact ⟨0, _, rfl, Nat.zero_le _, rfl, (fun j i hj => by omega), hide (by simpa [bytesI, Lib.byteCells] using World.ownsRow_nil w w.heap.size 5 1), Below.refl _ _⟩
  case round =>
    obtain ⟨k, V, rfl, hk, rfl, hM, hO, hB⟩ := hrel
    obtain ⟨wo, rfl⟩ : ∃ wo : World, wo = wr := ⟨_, rfl⟩
    by_cases hlt : k < n
    · have hk0 : (0 : Int) ≤ (k : Int) := Int.natCast_nonneg _
      have hk1 : (k : Int) < (n : Int) := by omega
      obtain ⟨b, o, rfl, hbl, hc⟩ := hR'.out.lit (by omega) (by omega)
      have hg : l[k]? = some (l[k]'(by rw [HL.out]; exact hlt)) := List.getElem?_eq_getElem _
      generalize l[k]'(by rw [HL.out]; exact hlt) = ins at hg
      obtain ⟨op, a, b', imm⟩ := ins
      obtain ⟨c0, c1, c2, c3⟩ := cellsI_get _ _ _ hg
      have c0 := (hB.out.cell (p := ⟨b, o + k * 4, none⟩) hbl).trans (hc _ _ c0)
      have c1 := (hB.out.cell (p := ⟨b, o + (k * 4 + 1), none⟩) hbl).trans (hc _ _ c1)
      have c2 := (hB.out.cell (p := ⟨b, o + (k * 4 + 2), none⟩) hbl).trans (hc _ _ c2)
      have c3 := (hB.out.cell (p := ⟨b, o + (k * 4 + 3), none⟩) hbl).trans (hc _ _ c3)
      simp only [← Nat.add_assoc] at c0 c1 c2 c3
      have HG := hide hg
      clear hg hc
      have hsw := hB.out.size
      by_cases hm : mayI (op, a, b', imm) = true
      · have hm' : mayB op a b' imm = true := hm
        have HM := hide hm'
        clear hm hm'
        go_wp2_with fail
        refine (rword_ok op a b' imm _ HM.out).mono ?_
        rintro e x1 ⟨rfl, hb⟩
        have hO1 := hide (own_keep hO.out hb)
        have hB1 := hide (hB.out.trans (hb.mono hB.out.size))
        have hr := word_range (mayB_in HM.out)
        obtain ⟨hr0, hr1⟩ := hr
        have HX := hide (show wordN op a b' imm = wordI (op, a, b', imm) from rfl)
        generalize wordN op a b' imm = x at hr0 hr1 HX ⊢
        have hsx := hB1.out.size
        clear hb hO hB c0 c1 c2 c3
        go_wp2_with (at_builtin; refine wpList_append_rd rfl (.tmp 25) (.tmp 40) 57 rfl w.heap.size 5 i0x _ 1 1 Tryd.underlying57 hi hz0 hz1 hz2 rfl (by omega) V (4 * k) (Lib.byteCells (bytesI (l.take k))) rfl (hO1.out.alloc _) (some ⟨x1.heap.size, 0, none⟩) 4 4 [.int .u8 (x % 256), .int .u8 (x / 256 % 256), .int .u8 (x / 65536 % 256), .int .u8 (x / 16777216)] rfl ?c1 (one_four _ _ _ _) ?c2 ?c3 ?c4 ?_)
        case c1 => exact rdC_four (by go_simp) (by go_simp) (by go_simp) (by go_simp)
        case c2 => unfold maxLen; omega
        case c3 => omega
        case c4 => simp; omega
        intro v' x2 hAp
        have hO2 := hide (show x2.ownsRow w.heap.size 5 1 v' (4 * (k + 1)) (Lib.byteCells (bytesI (l.take (k + 1)))) from by
          rw [bytesI_take l HG.out, ← HX.out, ← four_cells _ _ hr0 hr1]
          exact hAp.own)
        have hB2 := hide (hAp.below (hO1.out.alloc _) (hB1.out.alloc hB1.out.size _) (Nat.le_refl _) (by simp; omega))
        clear hAp hO1 hB1
        go_wp2
        go_roundw
        case rel => exact ⟨k + 1, _, rfl, by omega, by go_num, hide (fun j i hj hi => by
          rcases Nat.lt_or_ge j k with h | h
          · exact hM.out j i h hi
          · have e : j = k := by omega
            subst e
            have e2 := HG.out.symm.trans hi
            injection e2 with e2
            subst e2
            exact HM.out), hO2, hB2⟩
        case measure => simp [intOf]; omega
      · have hm' : mayB op a b' imm = false := by
          have : mayI (op, a, b', imm) = false := by simpa using hm
          exact this
        have HM := hide hm'
        clear hm hm'
        go_wp2_with fail
        refine (rword_no op a b' imm _ HM.out).mono ?_
        rintro e x1 ⟨rfl, hb⟩
        have hB1 := hide (hB.out.trans (hb.mono hB.out.size))
        have hE := hide (bytesE_no HG.out HM.out)
        clear hb hO hB c0 c1 c2 c3
        go_wp2
        go_ret2
        refine ⟨?_, hB1.out⟩
        unfold bytesR
        rw [hE.out]
        rfl
    · have hkn : k = n := by omega
      subst hkn
      have hk1 : ¬ (k : Int) < (k : Int) := by omega
      have hE := hide (bytesE_yes (by rw [HL.out]; exact hM.out))
      obtain ⟨A', c', rfl, -⟩ := own_slice hO.out
      have hcv := conv_row (RdC.of_own hO.out)
      clear hO
      go_wp2
      go_ret2
      refine ⟨?_, hB.out⟩
      unfold bytesR
      rw [hE.out, List.take_of_length_le (by rw [HL.out]; exact Nat.le_refl _)]
      rfl

end Go.Proofs.YtjiamhoabbjkmaaDoor.Isa
