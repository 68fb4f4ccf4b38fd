/-
  The walk of IsaRows: the bytes of two programs one behind the other. Conditions: the table isa.uses as laid; at most 1048576 instructions.
-/
import Derived.Test.YtjiamhoabbjkmaaDoorIsaShown
import Derived.Test.YtjiamhoabbjkmaaDoorIsaBytesW
import Derived.Test.YtjiamhoabbjkmaaDoorIsaBackW
import Derived.Test.YtjiamhoabbjkmaaDoorIsaSame
import Derived.Test.YtjiamhoabbjkmaaDoorRowAppend
import Derived.Deep.DeepCutAuto
namespace Go.Proofs.YtjiamhoabbjkmaaDoor.Isa
open Go.RowKit

theorem bytesE_two (l _m : List Ins) : bytesE l = 0 ∨ bytesE l = 1 := by unfold bytesE; split <;> simp_all
theorem bytesE_app {l m : List Ins} (hl : bytesE l = 0) (hm : bytesE m = 0) : bytesE (l ++ m) = 0 := by
  unfold bytesE at *
  have h1 : l.all mayI = true := by
    cases h : l.all mayI with
    | true => rfl
    | false => rw [h] at hl; simp at hl
  have h2 : m.all mayI = true := by
    cases h : m.all mayI with
    | true => rfl
    | false => rw [h] at hm; simp at hm
  rw [if_pos]
  rw [List.all_append, h1, h2]
  rfl
theorem bytesI_app (l m : List Ins) : bytesI (l ++ m) = bytesI l ++ bytesI m := by simp [bytesI]
theorem bytesR_app {l m : List Ins} (hl : bytesE l = 0) (hm : bytesE m = 0) : bytesR (l ++ m) = bytesR l ++ bytesR m := by
  unfold bytesR
  rw [if_pos hl, if_pos hm, if_pos (bytesE_app hl hm), bytesI_app]
  apply ByteArray.ext
  simp
theorem bytesR_size {l : List Ins} (hl : bytesE l = 0) : (bytesR l).size = 4 * l.length := by
  unfold bytesR
  rw [if_pos hl, ← bytesI_length]
  simp [ByteArray.size]
theorem four_at (x : Int) (h0 : 0 ≤ x) (h1 : x < 4294967296) (p q : List UInt8) : wordAt (p ++ four x ++ q) p.length = x := by
  unfold wordAt four
  have e : ∀ j, (p ++ [UInt8.ofNat (x % 256).toNat, UInt8.ofNat (x / 256 % 256).toNat, UInt8.ofNat (x / 65536 % 256).toNat, UInt8.ofNat (x / 16777216 % 256).toNat] ++ q).getD (p.length + j) 0
      = ([UInt8.ofNat (x % 256).toNat, UInt8.ofNat (x / 256 % 256).toNat, UInt8.ofNat (x / 65536 % 256).toNat, UInt8.ofNat (x / 16777216 % 256).toNat] ++ q).getD j 0 := fun j => by
    simp only [List.getD_eq_getElem?_getD, List.append_assoc]
    rw [List.getElem?_append_right (by omega)]
    congr 2
    omega
  have e0 := e 0
  rw [Nat.add_zero] at e0
  rw [e0, e 1, e 2, e 3]
  simp
  omega
/-- the words of a program's bytes -/
theorem word_at (l : List Ins) (h : bytesE l = 0) (k : Nat) (i : Ins) (hk : l[k]? = some i) : mayI i = true ∧ wordAt (bytesI l) (k * 4) = wordI i := by
  have ha : l.all mayI = true := by
    unfold bytesE at h
    cases h' : l.all mayI with
    | true => rfl
    | false => rw [h'] at h; simp at h
  have hm : mayI i = true := (List.all_eq_true.1 ha) i (List.mem_of_getElem? hk)
  refine ⟨hm, ?_⟩
  have hlt : k < l.length := (List.getElem?_eq_some_iff.1 hk).1
  have e : bytesI l = bytesI (l.take k) ++ four (wordI i) ++ bytesI (l.drop (k + 1)) := by
    rw [← bytesI_take l hk, ← bytesI_app, List.take_append_drop]
  have hlen : (bytesI (l.take k)).length = k * 4 := by rw [bytesI_length, List.length_take]; omega
  rw [e, ← hlen]
  obtain ⟨r0, r1⟩ := word_range (mayB_in hm)
  exact four_at _ r0 r1 _ _
theorem insOf_word {i : Ins} (h : mayI i = true) : insOf (wordI i) = i ∧ isW (wordI i) = true := by
  obtain ⟨op, a, b, imm⟩ := i
  have hin := mayB_in h
  have h1 := tOp_word hin
  have h2 := tA_word hin
  have h3 := tB_word hin
  have h4 := tI_word hin
  refine ⟨?_, ?_⟩
  · unfold insOf wordI
    simp only
    rw [h1, h2, h3, h4]
  · unfold isW wordI
    simp only
    rw [h1, h2, h3, h4]
    exact h
theorem backE_bytes {l : List Ins} (h : bytesE l = 0) : backE (bytesR l) = 0 := by
  have hs := bytesR_size h
  unfold backE
  rw [if_pos (by omega), if_pos]
  apply allB_of
  intro j hj
  have hj' : j < l.length := by omega
  have hg := List.getElem?_eq_getElem hj'
  obtain ⟨hm, hw⟩ := word_at l h j _ hg
  have : (bytesR l).data.toList = bytesI l := by unfold bytesR; rw [if_pos h]
  rw [this, hw]
  exact (insOf_word hm).2
theorem backR_bytes {l : List Ins} (h : bytesE l = 0) : backR (bytesR l) = l := by
  have hs := bytesR_size h
  unfold backR
  rw [if_pos (backE_bytes h)]
  have hd : (bytesR l).data.toList = bytesI l := by unfold bytesR; rw [if_pos h]
  have hk : (bytesR l).size / 4 = l.length := by omega
  rw [hd, hk]
  apply List.ext_getElem?
  intro j
  rcases Nat.lt_or_ge j l.length with hj | hj
  · have hg := List.getElem?_eq_getElem hj
    obtain ⟨hm, hw⟩ := word_at l h j _ hg
    rw [hg]
    unfold backL
    rw [List.getElem?_map, List.getElem?_range hj]
    simp only [Option.map_some]
    rw [hw, (insOf_word hm).1]
  · rw [List.getElem?_eq_none hj, List.getElem?_eq_none (by rw [backL_length]; exact hj)]

set_option maxHeartbeats 1600000 in
theorem rows_walk (A : Option Addr) (n c : Nat) (l : List Ins) (B : Option Addr) (m d : Nat) (r : List Ins) (w : World) (hT : Tab w) (hR : RdC w 4 A n c (cellsI l)) (hl : l.length = n) (hR2 : RdC w 4 B m d (cellsI r)) (hl2 : r.length = m) (hn : n + m ≤ 1048576) :
    Calls Tryd.prog 10 #[.slice A n c, .slice B m d] w fun e w' => e = .returned (.bool true) ∧ Below w.heap.size w w' := by
  have hT' := hide hT
  have hR' := hide hR
  have hR2' := hide hR2
  have HL := hide hl
  have HL2 := hide hl2
  have hn1 : n ≤ 1048576 := by omega
  have hm1 : m ≤ 1048576 := by omega
  obtain ⟨i0x, hi, hz0, hz1, hz2⟩ := info_parts infoIns
  clear hT hR hl hR2 hl2
  go_enter Tryd.func10, Tryd.ntmps10
  go_wp2_with fail
  refine (shown_any _ hT'.out).mono ?_
  rintro e w1 ⟨rfl, hb⟩
  have hB := hide hb
  clear hb
  go_wp2_with fail
  refine (bytes_any A n c l _ (by exact hT'.out.below hB.out) (by exact hR'.out.below hB.out) HL.out hn1).mono ?_
  rintro e w2 ⟨rfl, hb⟩
  have hB := hide (hB.out.trans (hb.mono hB.out.size))
  clear hb
  go_wp2_with fail
  refine (bytes_any B m d r _ (by exact hT'.out.below hB.out) (by exact hR2'.out.below hB.out) HL2.out hm1).mono ?_
  rintro e w3 ⟨rfl, hb⟩
  have hB := hide (hB.out.trans (hb.mono hB.out.size))
  clear hb
  rcases bytesE_two l r with h1 | h1
  · rcases bytesE_two r l with h2 | h2
    · have hE := hide (bytesE_app h1 h2)
      have hRR := hide (bytesR_app h1 h2)
      have hBE := hide (backE_bytes h1)
      have hBR := hide (backR_bytes h1)
      have hsz := hide (bytesR_size h1)
      have hszr := hide (bytesR_size h2)
      rw [h1, h2]
      clear h1 h2
      have hs3 := hB.out.size
      have hO0 : (w3.alloc (.cells #[] 23)).ownsRow w.heap.size 23 4 (.slice (some ⟨w3.heap.size, 0, none⟩) 0 0) 0 [] := World.ownsRow_lit w3 #[] 0 hs3 (by simp [maxLen]) rfl
      have hO0' := hide hO0
      have hB0 := hide (hB.out.alloc hB.out.size (.cells #[] 23))
      clear hO0 hB
      go_wp2_with (at_builtin; refine wpList_append_rd rfl (.tmp 34) (.tmp 35) 39 rfl w.heap.size 23 i0x _ 4 32 Tryd.underlying39 hi hz0 hz1 hz2 rfl (by omega) _ 0 [] rfl (by exact hO0'.out) A n c (cellsI l) rfl (by exact hR'.out.below hB0.out) (cellsI_one _) ?c2 ?c3 ?c4 ?_)
      case c2 => unfold maxLen; omega
      case c3 => omega
      case c4 => simp; omega
      intro v1 x1 hAp
      have hO1 := hide (show x1.ownsRow w.heap.size 23 4 v1 n (cellsI l) from by simpa using hAp.own)
      have hB1 := hide (hAp.below hO0'.out hB0.out (Nat.le_refl _) (by simp; omega))
      have hs1 := hB1.out.size
      clear hAp hO0' hB0
      go_wp2_with (at_builtin; refine wpList_append_rd rfl (.tmp 36) (.tmp 37) 39 rfl w.heap.size 23 i0x _ 4 32 Tryd.underlying39 hi hz0 hz1 hz2 rfl (by omega) _ n (cellsI l) rfl (by exact hO1.out) B m d (cellsI r) rfl (by exact hR2'.out.below hB1.out) (cellsI_one _) ?c2 ?c3 ?c4 ?_)
      case c2 => unfold maxLen; omega
      case c3 => omega
      case c4 => omega
      intro v2 x2 hAp
      have hO2 := hide (show x2.ownsRow w.heap.size 23 4 v2 (n + m) (cellsI (l ++ r)) from by
        rw [cellsI_append]
        exact hAp.own)
      have hB2 := hide (hAp.below hO1.out hB1.out (Nat.le_refl _) (by omega))
      have hs2 := hB2.out.size
      clear hAp hO1 hB1
      obtain ⟨A2, c2, rfl, -⟩ := own_slice hO2.out
      go_wp2_with fail
      refine (bytes_any A2 (n + m) c2 (l ++ r) _ (by exact hT'.out.below hB2.out) (by exact RdC.of_own hO2.out) (by simp [HL.out, HL2.out]) hn).mono ?_
      rintro e w4 ⟨rfl, hb⟩
      have hB := hide (hB2.out.trans (hb.mono hB2.out.size))
      rw [hE.out, hRR.out]
      clear hb hO2 hB2
      have hsl : (bytesR l).size ≤ 4194304 := by rw [hsz.out, HL.out]; omega
      go_wp2_with fail
      refine (back_any (bytesR l) _ (by exact hT'.out.below hB.out) hsl).mono ?_
      rintro e w5 ⟨A5, n5, c5, rfl, hR5, hb⟩
      have hB := hide (hB.out.trans (hb.mono hB.out.size))
      rw [hBE.out]
      rw [hBR.out] at hR5
      have hR5 := hide hR5
      clear hb
      go_wp2_with fail
      refine (same_any A5 A n5 c5 n c l l _ (by exact hR5.out) (by exact hR'.out.below hB.out) true (by simp)).mono ?_
      rintro e w6 ⟨rfl, hb⟩
      have hB := hide (hB.out.trans (hb.mono hB.out.size))
      clear hb hR5
      have hq1 : (((bytesR l).size : Int) == 4 * (n : Int)) = true := by rw [beq_iff_eq, hsz.out, HL.out]; omega
      clear hsl
      have hq2 : (bytesR l).size + (bytesR r).size ≤ 9223372036854775807 := by rw [hsz.out, hszr.out, HL.out, HL2.out]; omega
      go_wp2
      go_ret
      exact ⟨rfl, hB.out⟩
    · rw [h1, h2]
      go_wp2
      go_ret
      exact ⟨rfl, hB.out⟩
  · rw [h1]
    go_wp2
    go_ret
    exact ⟨rfl, hB.out⟩

end Go.Proofs.YtjiamhoabbjkmaaDoor.Isa
