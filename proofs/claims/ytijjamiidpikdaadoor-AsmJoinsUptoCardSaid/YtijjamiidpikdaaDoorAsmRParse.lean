/-
  The walk of the reference's Parse: it answers 'parseR'. Conditions: at most 2097152 bytes.
-/
import Derived.Test.YtijjamiidpikdaaDoorAsmParse
import Derived.Test.YtijjamiidpikdaaDoorAsmRSplit
import Derived.Test.YtijjamiidpikdaaDoorAsmRName
import Derived.Test.YtijjamiidpikdaaDoorAsmRLine
import Derived.Test.YtijjamiidpikdaaDoorAsmRNum
import Derived.Test.YtijjamiidpikdaaDoorRegionU
import Derived.Deep.CutBlock
namespace Go.Proofs.YtijjamiidpikdaaDoor.Asm
open Go.RowKit Go.Proofs.YtijjamiidpikdaaDoor.Isa

theorem rparse_end {tmps : Array Value} {W w : World} {op a b i e : Int} {R : Ending → World → Prop} (h2 : tmps.getD 2 undef = .pointer (some ⟨w.heap.size, 0, none⟩)) (h3 : tmps.getD 3 undef = .int .i64 e)
    (hc : IC w.heap.size op a b i W) (hb : Below w.heap.size w W)
    (hR : ∀ W', Below w.heap.size w W' → R (.returned (.tuple #[.agg #[.int .i64 op, .int .i64 a, .int .i64 b, .int .i64 i], .int .i64 e])) W') :
    bodyPost Tryd.prog Tryd.f15 R .ret { tmps := tmps, defers := [] } W := by
  obtain ⟨c0, c1, c2, c3⟩ := hc.cells
  have h2 : tmps[2]?.getD undef = .pointer (some ⟨w.heap.size, 0, none⟩) := by simpa using h2
  have h3 : tmps[3]?.getD undef = .int .i64 e := by simpa using h3
  exact bodyPost_ret (v := .tuple #[.agg #[.int .i64 op, .int .i64 a, .int .i64 b, .int .i64 i], .int .i64 e]) (by simp [results, Tryd.results15, h2, h3, c0, c1, c2, c3, go_sem]) rfl (hR _ hb)
theorem opTo_step (w0 : List UInt8) {n : Nat} (h : 1 ≤ n) : opTo w0 n = if nameOf n = w0 then n else opTo w0 (n - 1) := by
  obtain ⟨k, rfl⟩ : ∃ k, n = k + 1 := ⟨n - 1, by omega⟩
  rfl
theorem opTo_hit' (w0 : List UInt8) {n : Nat} (h : 1 ≤ n) (h2 : n ≤ 24) (h3 : nameOf n = w0) : opTo w0 24 = n := by
  obtain ⟨k, rfl⟩ : ∃ k, n = k + 1 := ⟨n - 1, by omega⟩
  exact opTo_hit w0 k (by omega) h3
theorem reg_shape {x : List UInt8} (h : isRegW x = true) : x.length = 2 ∧ x.getD 0 0 = 114 ∧ 48 ≤ (x.getD 1 0).toNat ∧ (x.getD 1 0).toNat ≤ 57 := by
  unfold isRegW at h
  simp only [Bool.and_eq_true, decide_eq_true_eq] at h
  obtain ⟨⟨h1, h2⟩, h3⟩ := h
  have hd := of_decide_eq_true h3
  exact ⟨h1, beq_iff_eq.1 h2, hd.1, hd.2⟩
theorem reg_not {x : List UInt8} (h : isRegW x = false) : x.length ≠ 2 ∨ (x.length = 2 ∧ x.getD 0 0 ≠ 114) ∨ (x.length = 2 ∧ x.getD 0 0 = 114 ∧ (x.getD 1 0).toNat < 48) ∨ (x.length = 2 ∧ x.getD 0 0 = 114 ∧ 48 ≤ (x.getD 1 0).toNat ∧ 57 < (x.getD 1 0).toNat) := by
  by_cases h1 : x.length = 2
  · by_cases h2 : x.getD 0 0 = 114
    · by_cases h3 : (x.getD 1 0).toNat < 48
      · exact .inr (.inr (.inl ⟨h1, h2, h3⟩))
      · by_cases h4 : 57 < (x.getD 1 0).toNat
        · exact .inr (.inr (.inr ⟨h1, h2, by omega, h4⟩))
        · exfalso
          have : isRegW x = true := by
            unfold isRegW isDig
            rw [decide_eq_true h1, h2]
            simp only [Bool.true_and, beq_self_eq_true]
            exact decide_eq_true ⟨by omega, by omega⟩
          rw [this] at h
          cases h
    · exact .inr (.inl ⟨h1, h2⟩)
  · exact .inl h1
theorem byte_at {x : List UInt8} {k : Nat} (h : k < x.length) : (⟨x.toArray⟩ : ByteArray)[k]'(by exact h) = x.getD k 0 := by
  rw [List.getD_eq_getElem?_getD, List.getElem?_eq_getElem h]
  rfl
theorem getD_tail (ws : List (List UInt8)) (m : Nat) : ws.tail.getD m [] = ws.getD (m + 1) [] := by
  cases ws with
  | nil => simp
  | cons w r => simp
theorem lead_tail_le (ws : List (List UInt8)) (h : ws ≠ []) : lead ws.tail + 1 ≤ ws.length := by
  have h1 := lead_le ws.tail
  have h2 := List.length_pos_iff.2 h
  rw [List.length_tail] at h1
  omega

set_option maxRecDepth 100000 in
set_option maxHeartbeats 8000000 in
theorem rparse_any (l : List UInt8) (hl : l.length ≤ 2097152) (w : World) :
    Calls Tryd.prog 15 #[.string ⟨l.toArray⟩] w fun e w' => e = .returned (.tuple #[insV (parseR l), .int .i64 (insE (parseR l))]) ∧ Below w.heap.size w w' := by
  have HL := hide hl
  clear hl
  go_enter Tryd.func15, Tryd.ntmps15
  go_wp2_with fail
  refine (rsplit_any l _ HL.out).mono ?_
  rintro e W ⟨A, cap, rfl, hrd, hb⟩
  have hwW : w.heap.size < W.heap.size := by have := hb.size; simp at this; omega
  have HB := hide (below_call hb)
  have HR := hide (show W.heap[w.heap.size]? = some (.cells #[.int .i64 0, .int .i64 0, .int .i64 0, .int .i64 0] 27 (0, 0)) from (hb.block _ (by simp)).trans (World.alloc_heap_new w _))
  clear hb
  have hne := splitW_ne l
  have hwl := splitW_len l
  have hwx := hide (word_at_len l)
  have HP := hide (show parseR l = if opTo ((splitW l).getD 0 []) 24 ≠ 0 ∧ (rI (splitW l) (lead (splitW l).tail)).2 = true ∧ mayB (opTo ((splitW l).getD 0 []) 24) (rA (splitW l) (lead (splitW l).tail)) (rB (splitW l) (lead (splitW l).tail)) (rI (splitW l) (lead (splitW l).tail)).1 = true ∧ lineL (opTo ((splitW l).getD 0 []) 24) (rA (splitW l) (lead (splitW l).tail)) (rB (splitW l) (lead (splitW l).tail)) (rI (splitW l) (lead (splitW l).tail)).1 = l then some (opTo ((splitW l).getD 0 []) 24, rA (splitW l) (lead (splitW l).tail), rB (splitW l) (lead (splitW l).tail), (rI (splitW l) (lead (splitW l).tail)).1) else none from rfl)
  generalize splitW l = ws at hne hwl hwx HP hrd ⊢
  have hws0 : 0 < ws.length := List.length_pos_iff.2 hne
  have hlt0 := lead_tail_le ws hne
  obtain ⟨g, o, rfl, hgl, hcs⟩ := hrd.lit hws0 (by omega)
  have HG : Hid (∀ j, j < ws.length → W.cell? ⟨g, o + j, none⟩ = some (.string ⟨(ws.getD j []).toArray⟩)) := fun j hj => hcs j _ (by simp [strsC, List.getElem?_eq_getElem hj, List.getD_eq_getElem?_getD])
  clear hcs hrd
  generalize hw0 : ws.getD 0 [] = w0 at HP
  have g0 : W.cell? ⟨g, o, none⟩ = some (.string ⟨w0.toArray⟩) := by rw [← hw0]; exact HG.out 0 hws0
  clear hw0
  have hgl0 : (0 : Int) < (ws.length : Int) := by omega
  have HL0 := hide (And.intro hlt0 hne)
  clear hlt0 hne
  go_wp2_with fail
  go_loopw [5] (fun i wr => ∃ n : Nat, 1 ≤ n ∧ n ≤ 25 ∧ i = .int .i64 (n : Int) ∧ Hid (opTo w0 (n - 1) = 0) ∧ Hid (Below W.heap.size W wr)) (fun i _ => 25 - (intOf i).toNat)
  case atStart => exact ⟨1, Nat.le_refl _, by omega, rfl, rfl, Below.refl _ _⟩
  case round =>
    obtain ⟨n, hn1, hk, rfl, hOp, hB⟩ := hrel
    by_cases hlt : n ≤ 24
    · have hop := hide (opTo_step w0 hn1)
      have i0 : (0 : Int) ≤ (n : Int) := Int.natCast_nonneg _
      have i1 : (n : Int) ≤ 24 := by omega
      by_cases hnm : nameOf n = w0
      · have heq : (nameOf n == w0) = true := beq_iff_eq.2 hnm
        have HOP := hide (opTo_hit' w0 hn1 hlt hnm)
        clear hop hnm hOp
        rw [HOP.out] at HP
        have HP := hide HP.out
        go_upto_region 5 with fail
        refine wp_region_noPanic ?_
        refine wp_region_U (S := Below W.heap.size W) (by kernel_rfl) (hB.out.drew) ?_
        refine wpAnyUN_take (i := 0) (oi := _) (some 19) (v := ?v1) rfl rfl (by kernel_rfl) (by kernel_rfl) (by kernel_rfl) (Or.inl ⟨by rfl, ?hy1⟩) ?rest1
        case hy1 =>
          intro w' hSw
          go_simp
          refine lands_value ?_ hSw
          with_reducible rfl
        try simp only [Act.put, List.setIfInBounds_toArray, List.set_cons_zero, List.set_cons_succ]
        refine wpAnyUN_take (i := 1) (oi := _) (some 20) (v := ?v2) rfl rfl (by kernel_rfl) (by kernel_rfl) (by kernel_rfl) (Or.inl ⟨by rfl, ?hy2⟩) ?rest2
        case hy2 =>
          intro w' hSw
          go_simp
          refine lands_enter ((rname_any n (by omega) (by omega) _).mono ?_)
          rintro e wx ⟨rfl, hb⟩
          refine ⟨?_, hSw.trans (hb.mono hSw.size)⟩
          with_reducible rfl
        try simp only [Act.put, List.setIfInBounds_toArray, List.set_cons_zero, List.set_cons_succ]
        refine wpAnyUN_take (i := 2) (oi := _) (some 21) (v := ?v3) rfl rfl (by kernel_rfl) (by kernel_rfl) (by kernel_rfl) (Or.inl ⟨by rfl, ?hy3⟩) ?rest3
        case hy3 =>
          intro w' hSw
          go_simp
          refine lands_value ?_ hSw
          with_reducible rfl
        try simp only [Act.put, List.setIfInBounds_toArray, List.set_cons_zero, List.set_cons_succ]
        refine wpAnyUN_take (i := 3) (oi := _) (some 22) (v := ?v4) rfl rfl (by kernel_rfl) (by kernel_rfl) (by kernel_rfl) (Or.inl ⟨by rfl, ?hy4⟩) ?rest4
        case hy4 =>
          intro w' hSw
          go_simp
          refine lands_value ?_ hSw
          with_reducible rfl
        try simp only [Act.put, List.setIfInBounds_toArray, List.set_cons_zero, List.set_cons_succ]
        refine wpAnyUN_take (i := 4) (oi := _) (some 23) (v := ?v5) rfl rfl (by kernel_rfl) (by kernel_rfl) (by kernel_rfl) (Or.inl ⟨by rfl, ?hy5⟩) ?rest5
        case hy5 =>
          intro w' hSw
          have c0 := (hSw.cell (p := ⟨g, o, none⟩) hgl).trans g0
          go_simp
          refine lands_value ?_ hSw
          with_reducible rfl
        try simp only [Act.put, List.setIfInBounds_toArray, List.set_cons_zero, List.set_cons_succ]
        refine wpAnyUN_take (i := 5) (oi := _) (some 24) (v := ?v6) rfl rfl (by kernel_rfl) (by kernel_rfl) (by kernel_rfl) (Or.inl ⟨by rfl, ?hy6⟩) ?rest6
        case hy6 =>
          intro w' hSw
          go_simp
          refine lands_value ?_ hSw
          with_reducible rfl
        try simp only [Act.put, List.setIfInBounds_toArray, List.set_cons_zero, List.set_cons_succ]
        refine wpAnyU_done (by kernel_rfl) (fun w' hSw => ?_) _
        refine NoPanic.normal ?_
        have hSw' := hide hSw
        clear hSw
        have hI0 : IC w'.heap.size (n : Int) 0 0 0 (w'.alloc (.cells #[.int .i64 (n : Int), .int .i64 0, .int .i64 0, .int .i64 0] 27)) := ic_new _ _ _ _ _
        have hBX := hide (hSw'.out.trans ((below_new w' (.cells #[.int .i64 (n : Int), .int .i64 0, .int .i64 0, .int .i64 0] 27)).mono hSw'.out.size))
        have hWs : W.heap.size ≤ w'.heap.size := hSw'.out.size
        have HI0 := hide hI0
        clear hI0 heq
        go_upto_block 2 with fail
        generalize (w'.alloc (.cells #[.int .i64 (n : Int), .int .i64 0, .int .i64 0, .int .i64 0] 27)) = X at HI0 hBX ⊢
        generalize w'.heap.size = Bi at HI0 hWs ⊢
        go_cut [7, 8] from 27 to 86 (fun sa _ wx => sa = .int .i64 ((lead ws.tail + 1 : Nat) : Int) ∧ Hid (IC Bi (n : Int) (rA ws (lead ws.tail)) (rB ws (lead ws.tail)) 0 wx) ∧ Hid (Below W.heap.size W wx))
        case first =>
          go_wp2_with fail
          go_loopw [7, 8] (fun sa sr wr => ∃ m : Nat, m ≤ lead ws.tail ∧ sa = .int .i64 ((m + 1 : Nat) : Int) ∧ sr = .int .i64 m ∧ Hid (IC Bi (n : Int) (rA ws m) (rB ws m) 0 wr) ∧ Hid (Below W.heap.size W wr)) (fun sa _ _ => ws.length + 1 - (intOf sa).toNat)
          case atStart => exact ⟨0, Nat.zero_le _, rfl, rfl, HI0, hBX⟩
          case round =>
            obtain ⟨m, hm, rfl, rfl, hI, hB⟩ := hrel
            have m0 : (0 : Int) ≤ (m : Int) := Int.natCast_nonneg _
            have hL1 := HL0.out.1
            have hLL := HL.out
            by_cases hmw : m + 1 < ws.length
            · have m1 : ((m + 1 : Nat) : Int) < (ws.length : Int) := by omega
              have m2 : (0 : Int) ≤ ((m + 1 : Nat) : Int) := Int.natCast_nonneg _
              have f5 : wr.cell? ⟨g, o + (m + 1), none⟩ = some (.string ⟨(ws.getD (m + 1) []).toArray⟩) := (hB.out.cell (p := ⟨g, o + (m + 1), none⟩) hgl).trans (HG.out (m + 1) hmw)
              cases hreg : isRegW (ws.getD (m + 1) []) with
              | true =>
                have hml : m < lead ws.tail := by
                  rcases Nat.lt_or_ge m (lead ws.tail) with h | h
                  · exact h
                  · have e : m = lead ws.tail := by omega
                    have := lead_stop ws.tail (by rw [← e, List.length_tail]; omega)
                    rw [← e, getD_tail, hreg] at this
                    cases this
                obtain ⟨hx2, hx0, d0, d1⟩ := reg_shape hreg
                generalize hx : ws.getD (m + 1) [] = x at f5 hx2 hx0 d0 d1
                have HX := hide hx
                clear hx hreg
                have q2 : ((x.length : Int) == 2) = true := beq_iff_eq.2 (by omega)
                have q3 : (1 : Int) < (x.length : Int) := by omega
                have q4 : (0 : Int) < (x.length : Int) := by omega
                have b0 := byte_at (x := x) (k := 0) (by omega)
                have b1 := byte_at (x := x) (k := 1) (by omega)
                have t0 : ((((⟨x.toArray⟩ : ByteArray)[0]'(by show 0 < x.length; omega)).toNat : Int) == 114) = true := by rw [b0, hx0]; rfl
                have t1 : (48 : Int) ≤ (((⟨x.toArray⟩ : ByteArray)[1]'(by show 1 < x.length; omega)).toNat : Int) := by rw [b1]; omega
                have t2 : (((⟨x.toArray⟩ : ByteArray)[1]'(by show 1 < x.length; omega)).toNat : Int) ≤ 57 := by rw [b1]; omega
                have B1 := hide b1
                clear b0 b1 hx0 d0 d1
                by_cases h0 : m = 0
                · subst h0
                  have hz := hI.out.free 1
                  obtain ⟨y0, y1, y2, y3⟩ := hI.out.cells
                  go_wp2
                  go_roundw
                  case rel =>
                    refine ⟨1, by omega, by go_num, by go_num, ?_, hB.out.setCell (p := ⟨Bi, 1, none⟩) hWs _⟩
                    have hv : rA ws 1 = (((⟨x.toArray⟩ : ByteArray)[1]'(by show 1 < x.length; omega)).toNat : Int) - 48 := by
                      unfold rA regDig
                      have hx := HX.out
                      simp only [Nat.zero_add] at hx
                      rw [if_pos (Nat.le_refl _), hx, B1.out]
                    rw [hv]
                    exact hI.out.set1 _
                  case measure => simp [intOf]; omega
                · by_cases h1 : m = 1
                  · subst h1
                    have hz := hI.out.free 2
                    obtain ⟨y0, y1, y2, y3⟩ := hI.out.cells
                    clear h0
                    go_wp2
                    go_roundw
                    case rel =>
                      refine ⟨2, by omega, by go_num, by go_num, ?_, hB.out.setCell (p := ⟨Bi, 2, none⟩) hWs _⟩
                      have hv : rB ws 2 = (((⟨x.toArray⟩ : ByteArray)[1]'(by show 1 < x.length; omega)).toNat : Int) - 48 := by
                        unfold rB regDig
                        have hx := HX.out
                        rw [show 1 + 1 = 2 from rfl] at hx
                        rw [if_pos (Nat.le_refl _), hx, B1.out]
                      rw [hv]
                      exact hI.out.set2 _
                    case measure => simp [intOf]; omega
                  · have q0 : ((m : Int) == 0) = false := beq_eq_false_iff_ne.2 (by omega)
                    have q1 : ((m : Int) == 1) = false := beq_eq_false_iff_ne.2 (by omega)
                    have hA' : rA ws (m + 1) = rA ws m := by unfold rA; rw [if_pos (by omega), if_pos (by omega)]
                    have hB' : rB ws (m + 1) = rB ws m := by unfold rB; rw [if_pos (by omega), if_pos (by omega)]
                    have HAB := hide (And.intro hA' hB')
                    clear hA' hB' h0 h1
                    go_wp2
                    go_roundw
                    case rel => exact ⟨m + 1, by omega, by go_num, by go_num, by rw [HAB.out.1, HAB.out.2]; exact hI, hB⟩
                    case measure => simp [intOf]; omega
              | false =>
                have hml := hide (show m = lead ws.tail from by
                  rcases Nat.lt_or_ge m (lead ws.tail) with h | h
                  · have := lead_all ws.tail m h
                    rw [getD_tail, hreg] at this
                    cases this
                  · omega)
                generalize ws.getD (m + 1) [] = x at f5 hreg
                rcases reg_not hreg with hx | ⟨hx, hc⟩ | ⟨hx, hc, hd⟩ | ⟨hx, hc, hd0, hd⟩
                · have q2 : ((x.length : Int) == 2) = false := beq_eq_false_iff_ne.2 (by omega)
                  clear hreg hx
                  go_wp2_with fail
                  go_meet
                  exact ⟨congrArg (fun q : Nat => Value.int .i64 ((q + 1 : Nat) : Int)) hml.out, by rw [← hml.out]; exact hI, hB⟩
                · have t0 : ((((⟨x.toArray⟩ : ByteArray)[0]'(by show 0 < x.length; omega)).toNat : Int) == 114) = false := by
                    rw [byte_at (x := x) (k := 0) (by omega)]
                    exact byte_ne (d := 114) hc
                  have q2 : ((x.length : Int) == 2) = true := beq_iff_eq.2 (by omega)
                  have q3 : (1 : Int) < (x.length : Int) := by omega
                  have q4 : (0 : Int) < (x.length : Int) := by omega
                  clear hreg hc
                  go_wp2_with fail
                  go_meet
                  exact ⟨congrArg (fun q : Nat => Value.int .i64 ((q + 1 : Nat) : Int)) hml.out, by rw [← hml.out]; exact hI, hB⟩
                · have t0 : ((((⟨x.toArray⟩ : ByteArray)[0]'(by show 0 < x.length; omega)).toNat : Int) == 114) = true := by rw [byte_at (x := x) (k := 0) (by omega), hc]; rfl
                  have t1 : (((⟨x.toArray⟩ : ByteArray)[1]'(by show 1 < x.length; omega)).toNat : Int) < 48 := by rw [byte_at (x := x) (k := 1) (by omega)]; omega
                  have q2 : ((x.length : Int) == 2) = true := beq_iff_eq.2 (by omega)
                  have q3 : (1 : Int) < (x.length : Int) := by omega
                  have q4 : (0 : Int) < (x.length : Int) := by omega
                  clear hreg hc hd
                  go_wp2_with fail
                  go_meet
                  exact ⟨congrArg (fun q : Nat => Value.int .i64 ((q + 1 : Nat) : Int)) hml.out, by rw [← hml.out]; exact hI, hB⟩
                · have t0 : ((((⟨x.toArray⟩ : ByteArray)[0]'(by show 0 < x.length; omega)).toNat : Int) == 114) = true := by rw [byte_at (x := x) (k := 0) (by omega), hc]; rfl
                  have t1 : (48 : Int) ≤ (((⟨x.toArray⟩ : ByteArray)[1]'(by show 1 < x.length; omega)).toNat : Int) := by rw [byte_at (x := x) (k := 1) (by omega)]; omega
                  have t2 : (57 : Int) < (((⟨x.toArray⟩ : ByteArray)[1]'(by show 1 < x.length; omega)).toNat : Int) := by rw [byte_at (x := x) (k := 1) (by omega)]; omega
                  have q2 : ((x.length : Int) == 2) = true := beq_iff_eq.2 (by omega)
                  have q3 : (1 : Int) < (x.length : Int) := by omega
                  have q4 : (0 : Int) < (x.length : Int) := by omega
                  clear hreg hc hd hd0
                  go_wp2_with fail
                  go_meet
                  exact ⟨congrArg (fun q : Nat => Value.int .i64 ((q + 1 : Nat) : Int)) hml.out, by rw [← hml.out]; exact hI, hB⟩
            · have hml := hide (show m = lead ws.tail from by omega)
              have m1 : ¬ ((m + 1 : Nat) : Int) < (ws.length : Int) := by omega
              go_wp2_with fail
              go_meet
              exact ⟨congrArg (fun q : Nat => Value.int .i64 ((q + 1 : Nat) : Int)) hml.out, by rw [← hml.out]; exact hI, hB⟩
        case rest =>
        obtain ⟨rfl, hI, hB⟩ := hcut
        generalize lead ws.tail = m at HP hI HL0 ⊢
        generalize rA ws m = a at HP hI
        generalize rB ws m = b at HP hI
        by_cases hmw : m + 1 < ws.length
        · have m1 : ((m + 1 : Nat) : Int) < (ws.length : Int) := by omega
          have m2 : (0 : Int) ≤ ((m + 1 : Nat) : Int) := Int.natCast_nonneg _
          have f5 := (hB.out.cell (p := ⟨g, o + (m + 1), none⟩) hgl).trans (HG.out (m + 1) hmw)
          have hri : rI ws m = numV (ws.getD (m + 1) []) := if_pos hmw
          have hxl := hide (show (ws.getD (m + 1) []).length ≤ maxLen from by have h1 := hwx.out (m + 1); have h2 := HL.out; unfold maxLen; omega)
          generalize ws.getD (m + 1) [] = x at f5 hri hxl
          cases hnum : numV x with
          | mk nv is =>
            rw [hnum] at hri
            have HRI := hide hri
            have HNUM := hide hnum
            clear hri hnum
            cases is
            · have hN := hide (show parseR l = none from by
                rw [HP.out, if_neg]
                rintro ⟨_, h, _⟩
                rw [HRI.out] at h
                cases h)
              have hfin := hide (show ∀ W', Below w.heap.size w W' → (fun (e : Ending) (w' : World) => e = .returned (.tuple #[insV (parseR l), .int .i64 (insE (parseR l))]) ∧ Below w.heap.size w w') (.returned (.tuple #[.agg #[.int .i64 0, .int .i64 0, .int .i64 0, .int .i64 0], .int .i64 3])) W' from fun W' h => ⟨by rw [hN.out]; rfl, h⟩)
              go_wp2_with fail
              refine (rnumber_any x _ hxl.out).mono ?_
              rintro e w1 ⟨rfl, hb⟩
              have hB := hide (hB.out.trans (hb.mono hB.out.size))
              clear hb
              rw [HNUM.out]
              have r0 : w1.heap[w.heap.size]? = some (.cells #[.int .i64 0, .int .i64 0, .int .i64 0, .int .i64 0] 27 (0, 0)) := (hB.out.block _ hwW).trans HR.out
              have r1 : ∀ o, w1.frozen? ⟨w.heap.size, o, none⟩ = false := IC.free (op := 0) (a := 0) (b := 0) (i := 0) r0
              have z0 := r1 0
              have z1 := r1 1
              have z2 := r1 2
              have z3 := r1 3
              obtain ⟨y0, y1, y2, y3⟩ := IC.cells (op := 0) (a := 0) (b := 0) (i := 0) r0
              have R0 := hide r0
              clear r1 r0
              go_wp2_with fail
              exact rparse_end rfl rfl (ic_put R0.out) (put_below (HB.out.trans (hB.out.mono HB.out.size)) (Nat.le_refl _)) hfin.out
            · go_wp2_with fail
              refine (rnumber_any x _ hxl.out).mono ?_
              rintro e w1 ⟨rfl, hb⟩
              have hI1 := hI.out.below hb
              have hz := hI1.free 3
              obtain ⟨y0, y1, y2, y3⟩ := hI1.cells
              have hB1 := hB.out.trans (hb.mono hB.out.size)
              have hI := hide (hI1.set3 nv)
              have hB := hide (hB1.setCell (p := ⟨Bi, 3, none⟩) hWs (.int .i64 nv))
              clear hb hI1 hB1 f5
              rw [HNUM.out]
              go_upto_region 21 with fail
              generalize w1.setCell ⟨Bi, 3, none⟩ (.int .i64 nv) = W2 at hI hB ⊢
              clear hz y0 y1 y2 y3
              cases hmay : mayB (n : Int) a b nv with
              | false =>
                have hN := hide (show parseR l = none from by
                  rw [HP.out, if_neg]
                  rintro ⟨_, _, h, _⟩
                  rw [HRI.out] at h
                  have h : mayB (n : Int) a b nv = true := h
                  rw [hmay] at h
                  cases h)
                have HM := hide hmay
                clear hmay
                have hfin := hide (show ∀ W', Below w.heap.size w W' → (fun (e : Ending) (w' : World) => e = .returned (.tuple #[insV (parseR l), .int .i64 (insE (parseR l))]) ∧ Below w.heap.size w w') (.returned (.tuple #[.agg #[.int .i64 0, .int .i64 0, .int .i64 0, .int .i64 0], .int .i64 3])) W' from fun W' h => ⟨by rw [hN.out]; rfl, h⟩)
                obtain ⟨i0, i1, i2, i3⟩ := hI.out.cells
                go_wp2_with fail
                refine (rline_no (n : Int) a b nv _ HM.out).mono ?_
                rintro e w2 ⟨rfl, hb⟩
                have hB := hide (hB.out.trans (hb.mono hB.out.size))
                clear hb i0 i1 i2 i3
                have r0 : w2.heap[w.heap.size]? = some (.cells #[.int .i64 0, .int .i64 0, .int .i64 0, .int .i64 0] 27 (0, 0)) := (hB.out.block _ hwW).trans HR.out
                have r1 : ∀ o, w2.frozen? ⟨w.heap.size, o, none⟩ = false := IC.free (op := 0) (a := 0) (b := 0) (i := 0) r0
                have z0 := r1 0
                have z1 := r1 1
                have z2 := r1 2
                have z3 := r1 3
                obtain ⟨y0, y1, y2, y3⟩ := IC.cells (op := 0) (a := 0) (b := 0) (i := 0) r0
                have R0 := hide r0
                clear r1 r0
                go_wp2_with fail
                exact rparse_end rfl rfl (ic_put R0.out) (put_below (HB.out.trans (hB.out.mono HB.out.size)) (Nat.le_refl _)) hfin.out
              | true =>
                have HM := hide hmay
                obtain ⟨i0, i1, i2, i3⟩ := hI.out.cells
                by_cases hll : lineL n a b nv = l
                · have hN := hide (show parseR l = some (n, a, b, nv) from by
                    rw [HP.out, HRI.out, if_pos ⟨by omega, rfl, hmay, hll⟩])
                  have heq : (lineL n a b nv == l) = true := beq_iff_eq.2 hll
                  clear hmay hll
                  have hfin := hide (show ∀ W', Below w.heap.size w W' → (fun (e : Ending) (w' : World) => e = .returned (.tuple #[insV (parseR l), .int .i64 (insE (parseR l))]) ∧ Below w.heap.size w w') (.returned (.tuple #[.agg #[.int .i64 (n : Int), .int .i64 a, .int .i64 b, .int .i64 nv], .int .i64 0])) W' from fun W' h => ⟨by rw [hN.out]; rfl, h⟩)
                  go_wp2_with fail
                  refine (rline_ok n a b nv _ HM.out).mono ?_
                  rintro e w2 ⟨rfl, hb⟩
                  obtain ⟨i0, i1, i2, i3⟩ := (hI.out.below hb).cells
                  have hB := hide (hB.out.trans (hb.mono hB.out.size))
                  clear hb
                  have r0 : w2.heap[w.heap.size]? = some (.cells #[.int .i64 0, .int .i64 0, .int .i64 0, .int .i64 0] 27 (0, 0)) := (hB.out.block _ hwW).trans HR.out
                  have r1 : ∀ o, w2.frozen? ⟨w.heap.size, o, none⟩ = false := IC.free (op := 0) (a := 0) (b := 0) (i := 0) r0
                  have z0 := r1 0
                  have z1 := r1 1
                  have z2 := r1 2
                  have z3 := r1 3
                  obtain ⟨y0, y1, y2, y3⟩ := IC.cells (op := 0) (a := 0) (b := 0) (i := 0) r0
                  have R0 := hide r0
                  clear r1 r0
                  go_wp2_with fail
                  exact rparse_end rfl rfl (ic_put R0.out) (put_below (HB.out.trans (hB.out.mono HB.out.size)) (Nat.le_refl _)) hfin.out
                · have hN := hide (show parseR l = none from by
                    rw [HP.out, if_neg]
                    rintro ⟨_, _, _, h⟩
                    rw [HRI.out] at h
                    exact hll h)
                  have heq : (lineL n a b nv == l) = false := beq_eq_false_iff_ne.2 hll
                  clear hmay hll
                  have hfin := hide (show ∀ W', Below w.heap.size w W' → (fun (e : Ending) (w' : World) => e = .returned (.tuple #[insV (parseR l), .int .i64 (insE (parseR l))]) ∧ Below w.heap.size w w') (.returned (.tuple #[.agg #[.int .i64 0, .int .i64 0, .int .i64 0, .int .i64 0], .int .i64 3])) W' from fun W' h => ⟨by rw [hN.out]; rfl, h⟩)
                  go_wp2_with fail
                  refine (rline_ok n a b nv _ HM.out).mono ?_
                  rintro e w2 ⟨rfl, hb⟩
                  have hB := hide (hB.out.trans (hb.mono hB.out.size))
                  clear hb
                  have r0 : w2.heap[w.heap.size]? = some (.cells #[.int .i64 0, .int .i64 0, .int .i64 0, .int .i64 0] 27 (0, 0)) := (hB.out.block _ hwW).trans HR.out
                  have r1 : ∀ o, w2.frozen? ⟨w.heap.size, o, none⟩ = false := IC.free (op := 0) (a := 0) (b := 0) (i := 0) r0
                  have z0 := r1 0
                  have z1 := r1 1
                  have z2 := r1 2
                  have z3 := r1 3
                  obtain ⟨y0, y1, y2, y3⟩ := IC.cells (op := 0) (a := 0) (b := 0) (i := 0) r0
                  have R0 := hide r0
                  clear r1 r0
                  go_wp2_with fail
                  exact rparse_end rfl rfl (ic_put R0.out) (put_below (HB.out.trans (hB.out.mono HB.out.size)) (Nat.le_refl _)) hfin.out
        · have m1 : ¬ ((m + 1 : Nat) : Int) < (ws.length : Int) := by omega
          have HRI := hide (show rI ws m = (0, true) from if_neg hmw)
          go_upto_region 21 with fail
          cases hmay : mayB (n : Int) a b 0 with
          | false =>
            have hN := hide (show parseR l = none from by
              rw [HP.out, if_neg]
              rintro ⟨_, _, h, _⟩
              rw [HRI.out] at h
              have h : mayB (n : Int) a b 0 = true := h
              rw [hmay] at h
              cases h)
            have HM := hide hmay
            clear hmay
            have hfin := hide (show ∀ W', Below w.heap.size w W' → (fun (e : Ending) (w' : World) => e = .returned (.tuple #[insV (parseR l), .int .i64 (insE (parseR l))]) ∧ Below w.heap.size w w') (.returned (.tuple #[.agg #[.int .i64 0, .int .i64 0, .int .i64 0, .int .i64 0], .int .i64 3])) W' from fun W' h => ⟨by rw [hN.out]; rfl, h⟩)
            obtain ⟨i0, i1, i2, i3⟩ := hI.out.cells
            go_wp2_with fail
            refine (rline_no (n : Int) a b 0 _ HM.out).mono ?_
            rintro e w2 ⟨rfl, hb⟩
            have hB := hide (hB.out.trans (hb.mono hB.out.size))
            clear hb i0 i1 i2 i3
            have r0 : w2.heap[w.heap.size]? = some (.cells #[.int .i64 0, .int .i64 0, .int .i64 0, .int .i64 0] 27 (0, 0)) := (hB.out.block _ hwW).trans HR.out
            have r1 : ∀ o, w2.frozen? ⟨w.heap.size, o, none⟩ = false := IC.free (op := 0) (a := 0) (b := 0) (i := 0) r0
            have z0 := r1 0
            have z1 := r1 1
            have z2 := r1 2
            have z3 := r1 3
            obtain ⟨y0, y1, y2, y3⟩ := IC.cells (op := 0) (a := 0) (b := 0) (i := 0) r0
            have R0 := hide r0
            clear r1 r0
            go_wp2_with fail
            exact rparse_end rfl rfl (ic_put R0.out) (put_below (HB.out.trans (hB.out.mono HB.out.size)) (Nat.le_refl _)) hfin.out
          | true =>
            have HM := hide hmay
            obtain ⟨i0, i1, i2, i3⟩ := hI.out.cells
            by_cases hll : lineL n a b 0 = l
            · have hN := hide (show parseR l = some (n, a, b, 0) from by
                rw [HP.out, HRI.out, if_pos ⟨by omega, rfl, hmay, hll⟩])
              have heq : (lineL n a b 0 == l) = true := beq_iff_eq.2 hll
              clear hmay hll
              have hfin := hide (show ∀ W', Below w.heap.size w W' → (fun (e : Ending) (w' : World) => e = .returned (.tuple #[insV (parseR l), .int .i64 (insE (parseR l))]) ∧ Below w.heap.size w w') (.returned (.tuple #[.agg #[.int .i64 (n : Int), .int .i64 a, .int .i64 b, .int .i64 0], .int .i64 0])) W' from fun W' h => ⟨by rw [hN.out]; rfl, h⟩)
              go_wp2_with fail
              refine (rline_ok n a b 0 _ HM.out).mono ?_
              rintro e w2 ⟨rfl, hb⟩
              obtain ⟨i0, i1, i2, i3⟩ := (hI.out.below hb).cells
              have hB := hide (hB.out.trans (hb.mono hB.out.size))
              clear hb
              have r0 : w2.heap[w.heap.size]? = some (.cells #[.int .i64 0, .int .i64 0, .int .i64 0, .int .i64 0] 27 (0, 0)) := (hB.out.block _ hwW).trans HR.out
              have r1 : ∀ o, w2.frozen? ⟨w.heap.size, o, none⟩ = false := IC.free (op := 0) (a := 0) (b := 0) (i := 0) r0
              have z0 := r1 0
              have z1 := r1 1
              have z2 := r1 2
              have z3 := r1 3
              obtain ⟨y0, y1, y2, y3⟩ := IC.cells (op := 0) (a := 0) (b := 0) (i := 0) r0
              have R0 := hide r0
              clear r1 r0
              go_wp2_with fail
              exact rparse_end rfl rfl (ic_put R0.out) (put_below (HB.out.trans (hB.out.mono HB.out.size)) (Nat.le_refl _)) hfin.out
            · have hN := hide (show parseR l = none from by
                rw [HP.out, if_neg]
                rintro ⟨_, _, _, h⟩
                rw [HRI.out] at h
                exact hll h)
              have heq : (lineL n a b 0 == l) = false := beq_eq_false_iff_ne.2 hll
              clear hmay hll
              have hfin := hide (show ∀ W', Below w.heap.size w W' → (fun (e : Ending) (w' : World) => e = .returned (.tuple #[insV (parseR l), .int .i64 (insE (parseR l))]) ∧ Below w.heap.size w w') (.returned (.tuple #[.agg #[.int .i64 0, .int .i64 0, .int .i64 0, .int .i64 0], .int .i64 3])) W' from fun W' h => ⟨by rw [hN.out]; rfl, h⟩)
              go_wp2_with fail
              refine (rline_ok n a b 0 _ HM.out).mono ?_
              rintro e w2 ⟨rfl, hb⟩
              have hB := hide (hB.out.trans (hb.mono hB.out.size))
              clear hb
              have r0 : w2.heap[w.heap.size]? = some (.cells #[.int .i64 0, .int .i64 0, .int .i64 0, .int .i64 0] 27 (0, 0)) := (hB.out.block _ hwW).trans HR.out
              have r1 : ∀ o, w2.frozen? ⟨w.heap.size, o, none⟩ = false := IC.free (op := 0) (a := 0) (b := 0) (i := 0) r0
              have z0 := r1 0
              have z1 := r1 1
              have z2 := r1 2
              have z3 := r1 3
              obtain ⟨y0, y1, y2, y3⟩ := IC.cells (op := 0) (a := 0) (b := 0) (i := 0) r0
              have R0 := hide r0
              clear r1 r0
              go_wp2_with fail
              exact rparse_end rfl rfl (ic_put R0.out) (put_below (HB.out.trans (hB.out.mono HB.out.size)) (Nat.le_refl _)) hfin.out
      · have heq : (nameOf n == w0) = false := beq_eq_false_iff_ne.2 hnm
        have HOP := hide (show opTo w0 (n + 1 - 1) = 0 from by rw [Nat.add_sub_cancel, hop.out, if_neg hnm]; exact hOp.out)
        clear hop hnm
        go_upto_region 5 with fail
        refine wp_region_noPanic ?_
        refine wp_region_U (S := Below W.heap.size W) (by kernel_rfl) (hB.out.drew) ?_
        refine wpAnyUN_take (i := 0) (oi := _) (some 19) (v := ?v7) rfl rfl (by kernel_rfl) (by kernel_rfl) (by kernel_rfl) (Or.inl ⟨by rfl, ?hy7⟩) ?rest7
        case hy7 =>
          intro w' hSw
          go_simp
          refine lands_value ?_ hSw
          with_reducible rfl
        try simp only [Act.put, List.setIfInBounds_toArray, List.set_cons_zero, List.set_cons_succ]
        refine wpAnyUN_take (i := 1) (oi := _) (some 20) (v := ?v8) rfl rfl (by kernel_rfl) (by kernel_rfl) (by kernel_rfl) (Or.inl ⟨by rfl, ?hy8⟩) ?rest8
        case hy8 =>
          intro w' hSw
          go_simp
          refine lands_enter ((rname_any n (by omega) (by omega) _).mono ?_)
          rintro e wx ⟨rfl, hb⟩
          refine ⟨?_, hSw.trans (hb.mono hSw.size)⟩
          with_reducible rfl
        try simp only [Act.put, List.setIfInBounds_toArray, List.set_cons_zero, List.set_cons_succ]
        refine wpAnyUN_take (i := 2) (oi := _) (some 21) (v := ?v9) rfl rfl (by kernel_rfl) (by kernel_rfl) (by kernel_rfl) (Or.inl ⟨by rfl, ?hy9⟩) ?rest9
        case hy9 =>
          intro w' hSw
          go_simp
          refine lands_value ?_ hSw
          with_reducible rfl
        try simp only [Act.put, List.setIfInBounds_toArray, List.set_cons_zero, List.set_cons_succ]
        refine wpAnyUN_take (i := 3) (oi := _) (some 22) (v := ?v10) rfl rfl (by kernel_rfl) (by kernel_rfl) (by kernel_rfl) (Or.inl ⟨by rfl, ?hy10⟩) ?rest10
        case hy10 =>
          intro w' hSw
          go_simp
          refine lands_value ?_ hSw
          with_reducible rfl
        try simp only [Act.put, List.setIfInBounds_toArray, List.set_cons_zero, List.set_cons_succ]
        refine wpAnyUN_take (i := 4) (oi := _) (some 23) (v := ?v11) rfl rfl (by kernel_rfl) (by kernel_rfl) (by kernel_rfl) (Or.inl ⟨by rfl, ?hy11⟩) ?rest11
        case hy11 =>
          intro w' hSw
          have c0 := (hSw.cell (p := ⟨g, o, none⟩) hgl).trans g0
          go_simp
          refine lands_value ?_ hSw
          with_reducible rfl
        try simp only [Act.put, List.setIfInBounds_toArray, List.set_cons_zero, List.set_cons_succ]
        refine wpAnyUN_take (i := 5) (oi := _) (some 24) (v := ?v12) rfl rfl (by kernel_rfl) (by kernel_rfl) (by kernel_rfl) (Or.inl ⟨by rfl, ?hy12⟩) ?rest12
        case hy12 =>
          intro w' hSw
          go_simp
          refine lands_value ?_ hSw
          with_reducible rfl
        try simp only [Act.put, List.setIfInBounds_toArray, List.set_cons_zero, List.set_cons_succ]
        refine wpAnyU_done (by kernel_rfl) (fun w' hSw => ?_) _
        refine NoPanic.normal ?_
        have hSw' := hide hSw
        clear hSw
        go_wp2
        go_roundw
        case rel => exact ⟨n + 1, by omega, by omega, by go_num, HOP, hSw'⟩
        case measure => simp [intOf]; omega
    · obtain rfl : n = 25 := by omega
      have hN := hide (show parseR l = none from by
        rw [HP.out, if_neg]
        rintro ⟨h, _⟩
        exact h hOp.out)
      have hfin := hide (show ∀ W', Below w.heap.size w W' → (fun (e : Ending) (w' : World) => e = .returned (.tuple #[insV (parseR l), .int .i64 (insE (parseR l))]) ∧ Below w.heap.size w w') (.returned (.tuple #[.agg #[.int .i64 0, .int .i64 0, .int .i64 0, .int .i64 0], .int .i64 3])) W' from fun W' h => ⟨by rw [hN.out]; rfl, h⟩)
      have r0 : wr.heap[w.heap.size]? = some (.cells #[.int .i64 0, .int .i64 0, .int .i64 0, .int .i64 0] 27 (0, 0)) := (hB.out.block _ hwW).trans HR.out
      have r1 : ∀ o, wr.frozen? ⟨w.heap.size, o, none⟩ = false := IC.free (op := 0) (a := 0) (b := 0) (i := 0) r0
      have z0 := r1 0
      have z1 := r1 1
      have z2 := r1 2
      have z3 := r1 3
      obtain ⟨y0, y1, y2, y3⟩ := IC.cells (op := 0) (a := 0) (b := 0) (i := 0) r0
      have R0 := hide r0
      clear r1 r0
      go_wp2_with fail
      exact rparse_end rfl rfl (ic_put R0.out) (put_below (HB.out.trans (hB.out.mono HB.out.size)) (Nat.le_refl _)) hfin.out

end Go.Proofs.YtijjamiidpikdaaDoor.Asm
