/-
  The walk of the reference's Back: the program of bytes. Conditions: at most 4194304 bytes.
-/
import Derived.Test.YtjiamhoabbjkmaaDoorIsaBackW
import Derived.Test.YtjiamhoabbjkmaaDoorIsaRefW
import Derived.Deep.QuietTactic
import Derived.BigQuiet
import Derived.Deep.DeepCutAuto
namespace Go.Proofs.YtjiamhoabbjkmaaDoor.Isa
open Go.RowKit

theorem add4 (s : ByteArray) (p : Nat) (h0 : p < s.size) (h1 : p + 1 < s.size) (h2 : p + 2 < s.size) (h3 : p + 3 < s.size) :
    (((s[p].toNat : Int) + 256 * ((s[p + 1].toNat : Int) % 4294967296) + 65536 * ((s[p + 2].toNat : Int) % 4294967296)) % 4294967296 + 16777216 * ((s[p + 3].toNat : Int) % 4294967296) % 4294967296) % 4294967296 = wordAt s.data.toList p := by
  unfold wordAt
  rw [getD_byte s p h0, getD_byte s (p + 1) h1, getD_byte s (p + 2) h2, getD_byte s (p + 3) h3]
  generalize s[p] = a
  generalize s[p + 1] = b
  generalize s[p + 2] = c
  generalize s[p + 3] = d
  have ha := a.toNat_lt
  have hb := b.toNat_lt
  have hc := c.toNat_lt
  have hd := d.toNat_lt
  omega

set_option maxHeartbeats 400000 in
theorem rback_more (s : ByteArray) (w : World) (hs : s.size ≤ 4194304) (h : ¬ s.size % 4 = 0) :
    Calls Tryd.prog 21 #[.string s] w fun e w' => e = .returned (.tuple #[.slice none 0 0, .int .i64 2]) ∧ Below w.heap.size w w' := by
  have hne : ((s.size : Int) % 4 != 0) = true := by rw [bne_iff_ne]; omega
  go_enter Tryd.func21, Tryd.ntmps21
  go_wp2
  go_ret2
  exact ⟨rfl, Below.refl _ _⟩

set_option maxHeartbeats 3200000 in
theorem rback_loop (s : ByteArray) (w : World) (hs : s.size ≤ 4194304) (h : s.size % 4 = 0) :
    Calls Tryd.prog 21 #[.string s] w fun e w' => ∃ A n c, e = .returned (.tuple #[.slice A n c, .int .i64 (backE s)]) ∧ RdC w' 4 A n c (cellsI (backR s)) ∧ Below w.heap.size w w' := by
  have hne : ((s.size : Int) % 4 != 0) = false := by rw [bne_eq_false_iff_eq]; omega
  have H4 := hide h
  clear h
  obtain ⟨i0x, hi, hz0, hz1, hz2⟩ := info_parts infoIns
  go_enter Tryd.func21, Tryd.ntmps21
  go_wp2
  go_loopw [4, 5] (fun v i wr => ∃ (p k : Nat) (V : Value), V = v ∧ p ≤ s.size ∧ Hid (p = k * 4) ∧ i = .int .i64 p ∧ Hid (allW s.data.toList k) ∧ Hid (wr.ownsRow w.heap.size 23 4 v k (cellsI (backL s.data.toList k))) ∧ Hid (Below w.heap.size w wr)) (fun _ i _ => s.size - (intOf i).toNat)
  case atStart => exact ⟨0, 0, _, rfl, Nat.zero_le _, rfl, rfl, (fun j hj => by omega), World.ownsRow_nil w _ _ _, Below.refl _ _⟩
  case round =>
    obtain ⟨p, k, V, rfl, hp, hpk, rfl, hW, hO, hB'⟩ := hrel
    have w3 : IntKind.i64.wrap ((p : Int) + 3) = (p : Int) + 3 := IntWalk.i64_in _ (by omega)
    by_cases hlt : p + 3 < s.size
    · have i0 : (p : Int) < s.size := by omega
      have i1 : (p : Int) + 1 < s.size := by omega
      have i2 : (p : Int) + 2 < s.size := by omega
      have i3 : (p : Int) + 3 < s.size := by omega
      have j1 : p + 1 < s.size := by omega
      have j2 : p + 2 < s.size := by omega
      have j3 : p + 3 < s.size := by omega
      have z0 : (0 : Int) ≤ (p : Int) := Int.natCast_nonneg _
      have z1 : (0 : Int) ≤ (p : Int) + 1 := by omega
      have z2 : (0 : Int) ≤ (p : Int) + 2 := by omega
      have z3 : (0 : Int) ≤ (p : Int) + 3 := by omega
      have w1 : IntKind.i64.wrap ((p : Int) + 1) = (p : Int) + 1 := IntWalk.i64_in _ (by omega)
      have w2 : IntKind.i64.wrap ((p : Int) + 2) = (p : Int) + 2 := IntWalk.i64_in _ (by omega)
      have t1 : ((p : Int) + 1).toNat = p + 1 := by omega
      have t2 : ((p : Int) + 2).toNat = p + 2 := by omega
      have t3 : ((p : Int) + 3).toNat = p + 3 := by omega
      have i0' : p < s.size := by omega
      have hkb : k ≤ 1048576 := by have := hpk.out; omega
      obtain ⟨r0, r1⟩ := wordAt_range s.data.toList p
      go_upto_region 7 with fail
      go_cut [6] from 13 to 56 (fun s6 wx => s6 = .int .u32 (wordAt s.data.toList p) ∧ Hid (Below wr.heap.size wr wx))
      case first =>
        go_quiet (fail)
        rw [add4 s p i0' j1 j2 j3]
        go_wp2_with fail
        go_meet
        exact ⟨rfl, below_drewN _ _⟩
      case rest =>
      obtain ⟨rfl, hq⟩ := hcut
      have hsz := hq.out.size
      clear i0 i1 i2 i3 j1 j2 j3 z0 z1 z2 z3 t1 t2 t3 i0' w1 w2
      by_cases hI : isW (wordAt s.data.toList p) = true
      · have HI := hide hI
        clear hI
        go_wp2_with fail
        refine (rtake_ok _ _ r0 r1 HI.out).mono ?_
        rintro e x1 ⟨rfl, hb⟩
        have hq1 := keep_call hq hb
        clear hsz hb
        go_upto_region 9 with fail
        have hP : BK w x1.heap.size (tOp (wordAt s.data.toList p)) (tA (wordAt s.data.toList p)) (tB (wordAt s.data.toList p)) (tI (wordAt s.data.toList p)) V k (cellsI (backL s.data.toList k)) (x1.alloc (.cells #[.int .i64 (tOp (wordAt s.data.toList p)), .int .i64 (tA (wordAt s.data.toList p)), .int .i64 (tB (wordAt s.data.toList p)), .int .i64 (tI (wordAt s.data.toList p))] 23)) := by
          have hq2 := keep_alloc hq1 (.cells #[.int .i64 (tOp (wordAt s.data.toList p)), .int .i64 (tA (wordAt s.data.toList p)), .int .i64 (tB (wordAt s.data.toList p)), .int .i64 (tI (wordAt s.data.toList p))] 23)
          refine ⟨?_, ?_, ?_, ?_, own_keep hO.out hq2.out, hB'.out.trans (hq2.out.mono hB'.out.size)⟩
          all_goals go_simp
        generalize (x1.alloc (.cells #[.int .i64 (tOp (wordAt s.data.toList p)), .int .i64 (tA (wordAt s.data.toList p)), .int .i64 (tB (wordAt s.data.toList p)), .int .i64 (tI (wordAt s.data.toList p))] 23)) = X at hP ⊢
        generalize x1.heap.size = hh at hP ⊢
        clear hq hq1 hO hB'
        obtain ⟨y0, y1, y2, y3, hO, hBX⟩ := hP
        have hO := hide hO
        have hBX := hide hBX
        have hyl : hh < X.heap.size := World.block_lt_of_cell? _ _ y0
        have hsX := hBX.out.size
        go_wp2_with (at_builtin; refine wpList_append_rd rfl (.tmp 53) (.tmp 55) 39 rfl w.heap.size 23 i0x _ 4 32 Tryd.underlying39 hi hz0 hz1 hz2 rfl (by omega) V k (cellsI (backL s.data.toList k)) rfl (hO.out.alloc _) (some ⟨X.heap.size, 0, none⟩) 1 1 [.int .i64 (tOp (wordAt s.data.toList p)), .int .i64 (tA (wordAt s.data.toList p)), .int .i64 (tB (wordAt s.data.toList p)), .int .i64 (tI (wordAt s.data.toList p))] rfl ?c1 (one_ins _ _ _ _) ?c2 ?c3 ?c4 ?_)
        case c1 => exact rdC_ins (by go_simp) (by go_simp) (by go_simp) (by go_simp)
        case c2 => unfold maxLen; omega
        case c3 => omega
        case c4 => simp; omega
        intro v' x2 hAp
        have hO2 := hide (show x2.ownsRow w.heap.size 23 4 v' (k + 1) (cellsI (backL s.data.toList (k + 1))) from by rw [backL_succ, cellsI_append, ← hpk.out]; exact hAp.own)
        have hB2 := hide (hAp.below (hO.out.alloc _) (hBX.out.alloc hBX.out.size _) (Nat.le_refl _) (by simp; omega))
        clear hAp hO hBX y0 y1 y2 y3
        go_wp2
        go_roundw
        case rel => exact ⟨p + 4, k + 1, _, rfl, by omega, hide (by have := hpk.out; omega), by go_num, hide (fun j hj => by
          rcases Nat.lt_or_ge j k with h | h
          · exact hW.out j h
          · have e : j = k := by omega
            rw [e, ← hpk.out]; exact HI.out), hO2, hB2⟩
        case measure => simp [intOf]; omega
      · have HI := hide (show isW (wordAt s.data.toList p) = false by simpa using hI)
        clear hI
        have hNo := hide (show backE s = 11 from by
          unfold backE
          rw [if_pos H4.out, if_neg]
          intro hall
          have := allB_at hall (show k < s.size / 4 by have := hpk.out; omega)
          rw [← hpk.out, HI.out] at this
          cases this)
        have hNoR := hide (show cellsI (backR s) = [] from by
          unfold backR
          rw [if_neg (by rw [hNo.out]; decide)]
          rfl)
        go_wp2_with fail
        refine (rtake_no _ _ r0 r1 HI.out).mono ?_
        rintro e x1 ⟨rfl, hb⟩
        have hq1 := keep_alloc (keep_call hq hb) (.cells #[.int .i64 0, .int .i64 0, .int .i64 0, .int .i64 0] 23)
        have hBe := hB'.out.trans (hq1.out.mono hB'.out.size)
        clear hsz hb
        go_wp2
        refine bodyPost_ret (v := .tuple #[.slice none 0 0, .int .i64 11]) (by simp [results, Tryd.results21, go_sem]) rfl ?_
        refine ⟨none, 0, 0, by rw [hNo.out], ?_, hBe⟩
        rw [hNoR.out]
        exact RdC.nil _ _
    · have hk4 : k = s.size / 4 := by have := hpk.out; have := H4.out; omega
      have hYes := hide (show backE s = 0 from by
        unfold backE
        rw [if_pos H4.out, if_pos]
        rw [← hk4]
        exact allB_of hW.out)
      have hYesR := hide (show cellsI (backR s) = cellsI (backL s.data.toList k) from by
        unfold backR
        rw [if_pos hYes.out, hk4])
      obtain ⟨A, c, rfl, -⟩ := own_slice hO.out
      have hK4 := hide hk4
      clear hk4
      have i3 : ¬ (p : Int) + 3 < s.size := by omega
      go_wp2
      refine bodyPost_ret (v := .tuple #[.slice A k c, .int .i64 0]) (by simp [results, Tryd.results21, go_sem]) rfl ?_
      refine ⟨A, k, c, by rw [hYes.out], ?_, hB'.out⟩
      rw [hYesR.out]
      exact RdC.of_own hO.out

theorem rback_any (s : ByteArray) (w : World) (hs : s.size ≤ 4194304) :
    Calls Tryd.prog 21 #[.string s] w fun e w' => ∃ A n c, e = .returned (.tuple #[.slice A n c, .int .i64 (backE s)]) ∧ RdC w' 4 A n c (cellsI (backR s)) ∧ Below w.heap.size w w' := by
  by_cases h : s.size % 4 = 0
  · exact rback_loop s w hs h
  · refine (rback_more s w hs h).mono ?_
    rintro e w' ⟨rfl, hb⟩
    have e2 : backE s = 2 := by unfold backE; rw [if_neg h]
    refine ⟨none, 0, 0, by rw [e2], ?_, hb⟩
    have : cellsI (backR s) = [] := by unfold backR; rw [if_neg (by rw [e2]; decide)]; rfl
    rw [this]
    exact RdC.nil _ _

end Go.Proofs.YtjiamhoabbjkmaaDoor.Isa
