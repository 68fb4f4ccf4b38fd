/-
  The walk of PortActs where nothing waits: what is sent, taken, looked at, is as the document says. Conditions: the list has room for one more (24 bytes a message).
-/
import Derived.Test.YtepnfhjfjjdpkaaPortActs1
import Derived.Test.YtepnfhjfjjdpkaaPortShown
import Derived.Deep.QuietTactic
import Derived.BigQuiet
import Derived.Outline
namespace Go.Proofs.Ytepnfhjfjjdpkaa.Port
open Go.RowKit

set_option maxRecDepth 4000 in
set_option maxHeartbeats 4000000 in
theorem acts_none (kind fr to size depth lost now lost' : Int) (A B : Option Addr) (n c m d : Nat) (ns : List Msg) (body : ByteArray) (w : World) (hA : Rd w A n c []) (hB : Rd w B m d ns) (hroom : (n + 1) * 24 ≤ 140737488355328) (hm : body.size ≤ maxLen) :
    Calls Try.prog 6 #[.agg #[.int .i64 kind, .int .i64 fr, .int .i64 to, .int .i64 size, .int .i64 depth, .slice A n c, .int .i64 lost, .int .u64 now, .string body, .slice B m d, .int .i64 lost']] w fun e w' => e = .returned (.bool true) ∧ Below w.heap.size w w' := by
  have hnc := hA.2.1
  have hcm : c ≤ 9223372036854775807 := hA.2.2.1
  have hml : n ≤ maxLen := Nat.le_trans hnc hA.2.2.1
  obtain rfl : n = 0 := hA.1.symm
  have hR := hide hA
  have hRo := hide hB
  have hml' := hide hm
  unfold maxLen at hm
  clear hA hB
  go_enter Try.func6, Try.ntmps6
  go_wp2_with fail
  have hK0 : KB w.heap.size kind fr to size depth A 0 c lost B m d lost' ((((w.alloc (.cells #[.int .i64 kind, .int .i64 fr, .int .i64 to, .int .i64 size, .int .i64 depth, .slice A 0 c, .int .i64 lost, .int .u64 now, .string body, .slice B m d, .int .i64 lost'] 46)).alloc (.cells #[.int .i64 kind, .int .i64 fr, .int .i64 to, .int .i64 size, .int .i64 depth] 23)).alloc (.cells #[.slice A 0 c, .int .i64 lost] 26)).alloc (.cells #[.slice B m d, .int .i64 lost'] 26)) := by
    refine ⟨?_, ?_, ?_, ?_, ?_, ?_, ?_, ?_, ?_⟩
    all_goals go_simp
  have hB0 := hide ((((below_new w (.cells #[.int .i64 kind, .int .i64 fr, .int .i64 to, .int .i64 size, .int .i64 depth, .slice A 0 c, .int .i64 lost, .int .u64 now, .string body, .slice B m d, .int .i64 lost'] 46)).alloc (by simp) (.cells #[.int .i64 kind, .int .i64 fr, .int .i64 to, .int .i64 size, .int .i64 depth] 23)).alloc (by simp <;> omega) (.cells #[.slice A 0 c, .int .i64 lost] 26)).alloc (by simp <;> omega) (.cells #[.slice B m d, .int .i64 lost'] 26))
  generalize ((((w.alloc (.cells #[.int .i64 kind, .int .i64 fr, .int .i64 to, .int .i64 size, .int .i64 depth, .slice A 0 c, .int .i64 lost, .int .u64 now, .string body, .slice B m d, .int .i64 lost'] 46)).alloc (.cells #[.int .i64 kind, .int .i64 fr, .int .i64 to, .int .i64 size, .int .i64 depth] 23)).alloc (.cells #[.slice A 0 c, .int .i64 lost] 26)).alloc (.cells #[.slice B m d, .int .i64 lost'] 26)) = X0 at hK0 hB0 ⊢
  refine (shown_any _).mono ?_
  rintro e w1 ⟨rfl, hb⟩
  have hK := hide (hK0.below hb)
  have hB := hide (hB0.out.trans (hb.mono hB0.out.size))
  clear hb hK0 hB0
  obtain ⟨c0, c1, c2, c3, c4, b0, b1, o0, o1⟩ := hK.out
  have q3 := hK.out.lt
  have q0 : w.heap.size < w1.heap.size := by omega
  have q1 : w.heap.size + 1 < w1.heap.size := by omega
  have q2 : w.heap.size + 1 + 1 < w1.heap.size := by omega
  have hsw := hB.out.size
  go_wp2_with fail
  refine (send_any kind fr to size depth lost now A 0 c [] body _ (by exact hR.out.below hB.out) hroom hml'.out).mono ?_
  rintro e w2 ⟨A1, n1, d1, rfl, -, hR1, hb⟩
  have hK := hide (hK.out.below hb)
  have hB := hide (hB.out.trans (hb.mono hB.out.size))
  have hR1 := hide hR1
  clear hb 
  clear c0 c1 c2 c3 c4 b0 b1 o0 o1 q0 q1 q2 q3 hsw
  obtain ⟨c0, c1, c2, c3, c4, b0, b1, o0, o1⟩ := hK.out
  have q3 := hK.out.lt
  have q0 : w.heap.size < w2.heap.size := by omega
  have q1 : w.heap.size + 1 < w2.heap.size := by omega
  have q2 : w.heap.size + 1 + 1 < w2.heap.size := by omega
  have hsw := hB.out.size
  go_wp2_with fail
  refine (rsend_any kind fr to size depth lost now A 0 c [] body _ (by exact hR.out.below (hB.out.alloc hB.out.size _)) hroom hml'.out).mono ?_
  rintro e w3 ⟨A2, n2, d2, rfl, hR2, hb⟩
  have hN : Below w2.heap.size w2 (w2.alloc (.cells #[.slice A1 n1 d1, .int .i64 (sendX kind size depth [] lost body)] 26)) := below_new w2 _
  have hb2 := hN.trans (hb.mono hN.size)
  have hK := hide (hK.out.below hb2)
  have hB := hide (hB.out.trans (hb2.mono hB.out.size))
  have hR1 := hide (hR1.out.below hb2)
  have hx := hide ((P2.new w2 (.slice A1 n1 d1) (.int .i64 (sendX kind size depth [] lost body)) 26).below hb)
  have hR2 := hide hR2
  clear hb hN hb2
  clear c0 c1 c2 c3 c4 b0 b1 o0 o1 q0 q1 q2 q3 hsw
  obtain ⟨c0, c1, c2, c3, c4, b0, b1, o0, o1⟩ := hK.out
  have q3 := hK.out.lt
  have q0 : w.heap.size < w3.heap.size := by omega
  have q1 : w.heap.size + 1 < w3.heap.size := by omega
  have q2 : w.heap.size + 1 + 1 < w3.heap.size := by omega
  have hsw := hB.out.size
  go_wp2_with fail
  refine (take_none kind fr to size depth lost A c _).mono ?_
  rintro e w4 ⟨rfl, hb⟩
  have hN : Below w3.heap.size w3 (w3.alloc (.cells #[.slice A2 n2 d2, .int .i64 (sendX kind size depth [] lost body)] 26)) := below_new w3 _
  have hb2 := hN.trans (hb.mono hN.size)
  have hK := hide (hK.out.below hb2)
  have hB := hide (hB.out.trans (hb2.mono hB.out.size))
  have hR1 := hide (hR1.out.below hb2)
  have hx := hide (hx.out.below hb2)
  have hR2 := hide (hR2.out.below hb2)
  have hy := hide ((P2.new w3 (.slice A2 n2 d2) (.int .i64 (sendX kind size depth [] lost body)) 26).below hb)
  clear hb hN hb2
  clear c0 c1 c2 c3 c4 b0 b1 o0 o1 q0 q1 q2 q3 hsw
  obtain ⟨c0, c1, c2, c3, c4, b0, b1, o0, o1⟩ := hK.out
  have q3 := hK.out.lt
  have q0 : w.heap.size < w4.heap.size := by omega
  have q1 : w.heap.size + 1 < w4.heap.size := by omega
  have q2 : w.heap.size + 1 + 1 < w4.heap.size := by omega
  have hsw := hB.out.size
  go_wp2_with fail
  refine (rtake_none kind fr to size depth lost A c _).mono ?_
  rintro e w5 ⟨rfl, hb⟩
  have hN : Below w4.heap.size w4 ((w4.alloc (.cells #[.slice A 0 c, .int .i64 lost] 26)).alloc (.cells #[.int .u64 0, .string .empty] 39)) := (below_new w4 _).alloc (by simp) _
  have hb2 := hN.trans (hb.mono hN.size)
  have hK := hide (hK.out.below hb2)
  have hB := hide (hB.out.trans (hb2.mono hB.out.size))
  have hR1 := hide (hR1.out.below hb2)
  have hx := hide (hx.out.below hb2)
  have hR2 := hide (hR2.out.below hb2)
  have hy := hide (hy.out.below hb2)
  have hp := hide ((show P2 w4.heap.size (.slice A 0 c) (.int .i64 lost) ((w4.alloc (.cells #[.slice A 0 c, .int .i64 lost] 26)).alloc (.cells #[.int .u64 0, .string .empty] 39)) from (P2.new w4 (.slice A 0 c) (.int .i64 lost) 26).below (below_new _ _)).below hb)
  have hm1 := hide ((show P2 (w4.heap.size + 1) (.int .u64 0) (.string .empty) ((w4.alloc (.cells #[.slice A 0 c, .int .i64 lost] 26)).alloc (.cells #[.int .u64 0, .string .empty] 39)) from by have := P2.new (w4.alloc (.cells #[.slice A 0 c, .int .i64 lost] 26)) (.int .u64 0) (.string .empty) 39; rwa [World.size_alloc] at this).below hb)
  clear hb hN hb2
  clear c0 c1 c2 c3 c4 b0 b1 o0 o1 q0 q1 q2 q3 hsw
  obtain ⟨c0, c1, c2, c3, c4, b0, b1, o0, o1⟩ := hK.out
  have q3 := hK.out.lt
  have q0 : w.heap.size < w5.heap.size := by omega
  have q1 : w.heap.size + 1 < w5.heap.size := by omega
  have q2 : w.heap.size + 1 + 1 < w5.heap.size := by omega
  have hsw := hB.out.size
  obtain ⟨x0, x1⟩ := hx.out
  obtain ⟨y0, y1⟩ := hy.out
  have l2 := hx.out.lt
  have l3 := hy.out.lt
  have l2' : w2.heap.size ≤ w5.heap.size := by omega
  have l3' : w3.heap.size ≤ w5.heap.size := by omega
  go_wp2_with fail
  clear x0 x1 y0 y1 l2 l3 l2' l3'
  have hN : Below w5.heap.size w5 ((w5.alloc (.cells #[.slice A 0 c, .int .i64 lost] 26)).alloc (.cells #[.int .u64 0, .string .empty] 39)) := (below_new w5 _).alloc (by simp) _
  have hq := hide (show P2 w5.heap.size (.slice A 0 c) (.int .i64 lost) ((w5.alloc (.cells #[.slice A 0 c, .int .i64 lost] 26)).alloc (.cells #[.int .u64 0, .string .empty] 39)) from (P2.new w5 (.slice A 0 c) (.int .i64 lost) 26).below (below_new _ _))
  have hm2 := hide (show P2 (w5.heap.size + 1) (.int .u64 0) (.string .empty) ((w5.alloc (.cells #[.slice A 0 c, .int .i64 lost] 26)).alloc (.cells #[.int .u64 0, .string .empty] 39)) from by have := P2.new (w5.alloc (.cells #[.slice A 0 c, .int .i64 lost] 26)) (.int .u64 0) (.string .empty) 39; rwa [World.size_alloc] at this)
  have hK := hide (hK.out.below hN)
  have hB := hide (hB.out.trans (hN.mono hB.out.size))
  have hR1 := hide (hR1.out.below hN)
  have hx := hide (hx.out.below hN)
  have hR2 := hide (hR2.out.below hN)
  have hy := hide (hy.out.below hN)
  have hp := hide (hp.out.below hN)
  have hm1 := hide (hm1.out.below hN)
  clear c0 c1 c2 c3 c4 b0 b1 o0 o1 q0 q1 q2 q3 hsw
  clear hN
  generalize ((w5.alloc (.cells #[.slice A 0 c, .int .i64 lost] 26)).alloc (.cells #[.int .u64 0, .string .empty] 39)) = X5 at hR1 hx hR2 hy hp hm1 hq hm2 hK hB ⊢
  generalize w2.heap.size = g2 at hx ⊢
  generalize w3.heap.size = g3 at hy ⊢
  generalize w4.heap.size = g4 at hp hm1 ⊢
  generalize w5.heap.size = g5 at hq hm2 ⊢
  obtain ⟨x0, x1⟩ := hx.out
  obtain ⟨y0, y1⟩ := hy.out
  obtain ⟨p0, p1⟩ := hp.out
  obtain ⟨s0, s1⟩ := hq.out
  refine (rsame_any A1 A2 n1 d1 n2 d2 (sendX kind size depth [] lost body) (sendX kind size depth [] lost body) (sendL kind size depth [] now body) (sendL kind size depth [] now body) _ hR1.out hR2.out true (by simp)).mono ?_
  rintro e w6 ⟨rfl, hb⟩
  have p0 := (hb.cell (World.block_lt_of_cell? _ _ p0)).trans p0
  have p1 := (hb.cell (World.block_lt_of_cell? _ _ p1)).trans p1
  have s0 := (hb.cell (World.block_lt_of_cell? _ _ s0)).trans s0
  have s1 := (hb.cell (World.block_lt_of_cell? _ _ s1)).trans s1
  have hK := hide (hK.out.below hb)
  have hB := hide (hB.out.trans (hb.mono hB.out.size))
  have hm1 := hide (hm1.out.below hb)
  have hm2 := hide (hm2.out.below hb)
  clear hb x0 x1 y0 y1 hx hy hp hq hR1 hR2
  go_wp2_with fail
  refine (rsame_any A A 0 c 0 c lost lost [] [] _ (by exact hR.out.below hB.out) (by exact hR.out.below hB.out) true (by simp)).mono ?_
  rintro e w7 ⟨rfl, hb⟩
  have hK := hide (hK.out.below hb)
  have hB := hide (hB.out.trans (hb.mono hB.out.size))
  have hm1 := hide (hm1.out.below hb)
  have hm2 := hide (hm2.out.below hb)
  clear hb p0 p1 s0 s1
  obtain ⟨c0, c1, c2, c3, c4, b0, b1, o0, o1⟩ := hK.out
  have q3 := hK.out.lt
  have q0 : w.heap.size < w7.heap.size := by omega
  have q1 : w.heap.size + 1 < w7.heap.size := by omega
  have q2 : w.heap.size + 1 + 1 < w7.heap.size := by omega
  have hsw := hB.out.size
  go_wp2_with fail
  refine (peek_none kind fr to size depth lost A c _).mono ?_
  rintro e w8 ⟨rfl, hb⟩
  have hq7 := hK.out.lt
  have hs8 : w7.heap.size ≤ w8.heap.size := hb.size
  have hN : Below w8.heap.size w8 (w8.alloc (.cells #[.int .u64 0, .string .empty] 39)) := below_new _ _
  have hb2 : Below w7.heap.size w7 (w8.alloc (.cells #[.int .u64 0, .string .empty] 39)) := hb.trans (hN.mono hb.size)
  have hK8 := hide (hK.out.below hb)
  have hK := hide (hK.out.below hb2)
  have hB := hide (hB.out.trans (hb2.mono hB.out.size))
  have hm1 := hide (hm1.out.below hb2)
  have hm2 := hide (hm2.out.below hb2)
  have hk := hide (P2.new w8 (.int .u64 0) (.string .empty) 39)
  clear c0 c1 c2 c3 c4 b0 b1 o0 o1 q0 q1 q2 q3 hsw
  clear hb hN hb2
  obtain ⟨k0, k1⟩ := hk.out
  obtain ⟨c0, c1, c2, c3, c4, b0, b1, o0, o1⟩ := hK8.out
  have q0 : w.heap.size < w8.heap.size := by omega
  have q1 : w.heap.size + 1 < w8.heap.size := by omega
  have q2 : w.heap.size + 1 + 1 < w8.heap.size := by omega
  have q3 : w.heap.size + 1 + 1 + 1 < w8.heap.size := by omega
  go_wp2_with fail
  go_quiet (fail)
  go_wp2_with fail
  have hKF : KF w w.heap.size kind fr to size depth A 0 c lost B m d lost' (g4 + 1) (g5 + 1) 0 .empty [] ns (w8.alloc (.cells #[.int .u64 0, .string .empty] 39)) :=
    ⟨hK.out, hm1.out, hm2.out, hR.out.below hB.out, hRo.out.below hB.out, hB.out, hB.out.size⟩
  have hKF2 := hKF.below (below_drewN _ nq)
  clear hKF hK hm1 hm2 hB k0 k1 c0 c1 c2 c3 c4 b0 b1 o0 o1 q0 q1 q2 q3 hq7 hs8 hK8 hk
  refine wp_region_noPanic ?_
  refine wp_region_U (S := KF w w.heap.size kind fr to size depth A 0 c lost B m d lost' (g4 + 1) (g5 + 1) 0 .empty [] ns) (by kernel_rfl) (hKF2.below ((Below.refl _ _).drew)) ?_
  refine wpAnyUN_take (i := 0) (oi := _) (some 104) (v := ?v46) rfl rfl (by kernel_rfl) (by kernel_rfl) (by kernel_rfl) (Or.inl ⟨by rfl, ?hy46⟩) ?rest46
  case hy46 =>
    intro w' hSw
    go_simp
    refine lands_value ?_ hSw
    with_reducible rfl
  try simp only [Act.put, List.setIfInBounds_toArray, List.set_cons_zero, List.set_cons_succ]
  refine wpAnyUN_take (i := 1) (oi := _) (some 105) (v := ?v47) rfl rfl (by kernel_rfl) (by kernel_rfl) (by kernel_rfl) (Or.inl ⟨by rfl, ?hy47⟩) ?rest47
  case hy47 =>
    intro w' hSw
    go_simp
    refine lands_value ?_ hSw
    with_reducible rfl
  try simp only [Act.put, List.setIfInBounds_toArray, List.set_cons_zero, List.set_cons_succ]
  refine wpAnyUN_take (i := 2) (oi := _) (some 106) (v := ?v48) rfl rfl (by kernel_rfl) (by kernel_rfl) (by kernel_rfl) (Or.inl ⟨by rfl, ?hy48⟩) ?rest48
  case hy48 =>
    intro w' hSw
    go_simp
    refine lands_value ?_ hSw
    with_reducible rfl
  try simp only [Act.put, List.setIfInBounds_toArray, List.set_cons_zero, List.set_cons_succ]
  refine wpAnyUN_take (i := 3) (oi := _) (some 107) (v := ?v49) rfl rfl (by kernel_rfl) (by kernel_rfl) (by kernel_rfl) (Or.inl ⟨by rfl, ?hy49⟩) ?rest49
  case hy49 =>
    intro w' hSw
    go_simp
    refine lands_value ?_ hSw
    with_reducible rfl
  try simp only [Act.put, List.setIfInBounds_toArray, List.set_cons_zero, List.set_cons_succ]
  refine wpAnyUN_take (i := 4) (oi := _) (some 108) (v := ?v50) rfl rfl (by kernel_rfl) (by kernel_rfl) (by kernel_rfl) (Or.inl ⟨by rfl, ?hy50⟩) ?rest50
  case hy50 =>
    intro w' hSw
    go_simp
    refine lands_value ?_ hSw
    with_reducible rfl
  try simp only [Act.put, List.setIfInBounds_toArray, List.set_cons_zero, List.set_cons_succ]
  refine wpAnyUN_take (i := 5) (oi := _) (some 109) (v := ?v51) rfl rfl (by kernel_rfl) (by kernel_rfl) (by kernel_rfl) (Or.inl ⟨by rfl, ?hy51⟩) ?rest51
  case hy51 =>
    intro w' hSw
    go_simp
    refine lands_value ?_ hSw
    with_reducible rfl
  try simp only [Act.put, List.setIfInBounds_toArray, List.set_cons_zero, List.set_cons_succ]
  refine wpAnyUN_take (i := 6) (oi := _) (some 110) (v := ?v52) rfl rfl (by kernel_rfl) (by kernel_rfl) (by kernel_rfl) (Or.inl ⟨by rfl, ?hy52⟩) ?rest52
  case hy52 =>
    intro w' hSw
    go_simp
    refine lands_value ?_ hSw
    with_reducible rfl
  try simp only [Act.put, List.setIfInBounds_toArray, List.set_cons_zero, List.set_cons_succ]
  refine wpAnyUN_take (i := 7) (oi := _) (some 111) (v := ?v53) rfl rfl (by kernel_rfl) (by kernel_rfl) (by kernel_rfl) (Or.inl ⟨by rfl, ?hy53⟩) ?rest53
  case hy53 =>
    intro w' hSw
    go_simp
    refine lands_value ?_ hSw
    with_reducible rfl
  try simp only [Act.put, List.setIfInBounds_toArray, List.set_cons_zero, List.set_cons_succ]
  refine wpAnyUN_take (i := 8) (oi := _) (some 112) (v := ?v54) rfl rfl (by kernel_rfl) (by kernel_rfl) (by kernel_rfl) (Or.inl ⟨by rfl, ?hy54⟩) ?rest54
  case hy54 =>
    intro w' hSw
    go_simp
    refine lands_value ?_ hSw
    with_reducible rfl
  try simp only [Act.put, List.setIfInBounds_toArray, List.set_cons_zero, List.set_cons_succ]
  refine wpAnyUN_take (i := 9) (oi := _) (some 113) (v := ?v55) rfl rfl (by kernel_rfl) (by kernel_rfl) (by kernel_rfl) (Or.inl ⟨by rfl, ?hy55⟩) ?rest55
  case hy55 =>
    intro w' hSw
    go_simp
    refine lands_value ?_ hSw
    with_reducible rfl
  try simp only [Act.put, List.setIfInBounds_toArray, List.set_cons_zero, List.set_cons_succ]
  refine wpAnyUN_take (i := 10) (oi := _) (some 114) (v := ?v56) rfl rfl (by kernel_rfl) (by kernel_rfl) (by kernel_rfl) (Or.inl ⟨by rfl, ?hy56⟩) ?rest56
  case hy56 =>
    intro w' hSw
    obtain ⟨⟨-, -, -, -, -, b0, b1, o0, o1⟩, ⟨r0, r1⟩, ⟨s0, s1⟩, -, -, -, -⟩ := id hSw
    go_simp
    refine lands_value ?_ hSw
    with_reducible rfl
  try simp only [Act.put, List.setIfInBounds_toArray, List.set_cons_zero, List.set_cons_succ]
  refine wpAnyUN_take (i := 11) (oi := _) (some 115) (v := ?v57) rfl rfl (by kernel_rfl) (by kernel_rfl) (by kernel_rfl) (Or.inl ⟨by rfl, ?hy57⟩) ?rest57
  case hy57 =>
    intro w' hSw
    obtain ⟨⟨-, -, -, -, -, b0, b1, o0, o1⟩, ⟨r0, r1⟩, ⟨s0, s1⟩, -, -, -, -⟩ := id hSw
    go_simp
    refine lands_value ?_ hSw
    with_reducible rfl
  try simp only [Act.put, List.setIfInBounds_toArray, List.set_cons_zero, List.set_cons_succ]
  refine wpAnyUN_take (i := 12) (oi := _) (some 116) (v := ?v58) rfl rfl (by kernel_rfl) (by kernel_rfl) (by kernel_rfl) (Or.inl ⟨by rfl, ?hy58⟩) ?rest58
  case hy58 =>
    intro w' hSw
    go_simp
    refine lands_value ?_ hSw
    with_reducible rfl
  try simp only [Act.put, List.setIfInBounds_toArray, List.set_cons_zero, List.set_cons_succ]
  refine wpAnyUN_take (i := 13) (oi := _) (some 117) (v := ?v59) rfl rfl (by kernel_rfl) (by kernel_rfl) (by kernel_rfl) (Or.inl ⟨by rfl, ?hy59⟩) ?rest59
  case hy59 =>
    intro w' hSw
    go_simp
    refine lands_value ?_ hSw
    with_reducible rfl
  try simp only [Act.put, List.setIfInBounds_toArray, List.set_cons_zero, List.set_cons_succ]
  refine wpAnyUN_take (i := 14) (oi := _) (some 118) (v := ?v60) rfl rfl (by kernel_rfl) (by kernel_rfl) (by kernel_rfl) (Or.inl ⟨by rfl, ?hy60⟩) ?rest60
  case hy60 =>
    intro w' hSw
    go_simp
    refine lands_value ?_ hSw
    with_reducible rfl
  try simp only [Act.put, List.setIfInBounds_toArray, List.set_cons_zero, List.set_cons_succ]
  refine wpAnyUN_take (i := 15) (oi := _) (some 119) (v := ?v61) rfl rfl (by kernel_rfl) (by kernel_rfl) (by kernel_rfl) (Or.inl ⟨by rfl, ?hy61⟩) ?rest61
  case hy61 =>
    intro w' hSw
    go_simp
    refine lands_value ?_ hSw
    with_reducible rfl
  try simp only [Act.put, List.setIfInBounds_toArray, List.set_cons_zero, List.set_cons_succ]
  refine wpAnyUN_take (i := 16) (oi := _) (some 120) (v := ?v62) rfl rfl (by kernel_rfl) (by kernel_rfl) (by kernel_rfl) (Or.inl ⟨by rfl, ?hy62⟩) ?rest62
  case hy62 =>
    intro w' hSw
    go_simp
    refine lands_value ?_ hSw
    with_reducible rfl
  try simp only [Act.put, List.setIfInBounds_toArray, List.set_cons_zero, List.set_cons_succ]
  refine wpAnyUN_take (i := 17) (oi := _) (some 121) (v := ?v63) rfl rfl (by kernel_rfl) (by kernel_rfl) (by kernel_rfl) (Or.inl ⟨by rfl, ?hy63⟩) ?rest63
  case hy63 =>
    intro w' hSw
    go_simp
    refine lands_value ?_ hSw
    with_reducible rfl
  try simp only [Act.put, List.setIfInBounds_toArray, List.set_cons_zero, List.set_cons_succ]
  refine wpAnyUN_take (i := 18) (oi := _) (some 122) (v := ?v64) rfl rfl (by kernel_rfl) (by kernel_rfl) (by kernel_rfl) (Or.inl ⟨by rfl, ?hy64⟩) ?rest64
  case hy64 =>
    intro w' hSw
    go_simp
    refine lands_value ?_ hSw
    with_reducible rfl
  try simp only [Act.put, List.setIfInBounds_toArray, List.set_cons_zero, List.set_cons_succ]
  refine wpAnyUN_take (i := 19) (oi := _) (some 123) (v := ?v65) rfl rfl (by kernel_rfl) (by kernel_rfl) (by kernel_rfl) (Or.inl ⟨by rfl, ?hy65⟩) ?rest65
  case hy65 =>
    intro w' hSw
    go_simp
    refine lands_value ?_ hSw
    with_reducible rfl
  try simp only [Act.put, List.setIfInBounds_toArray, List.set_cons_zero, List.set_cons_succ]
  refine wpAnyUN_take (i := 20) (oi := _) (some 124) (v := ?v66) rfl rfl (by kernel_rfl) (by kernel_rfl) (by kernel_rfl) (Or.inl ⟨by rfl, ?hy66⟩) ?rest66
  case hy66 =>
    intro w' hSw
    go_simp
    refine lands_value ?_ hSw
    with_reducible rfl
  try simp only [Act.put, List.setIfInBounds_toArray, List.set_cons_zero, List.set_cons_succ]
  refine wpAnyUN_take (i := 21) (oi := _) (some 125) (v := ?v67) rfl rfl (by kernel_rfl) (by kernel_rfl) (by kernel_rfl) (Or.inl ⟨by rfl, ?hy67⟩) ?rest67
  case hy67 =>
    intro w' hSw
    go_simp
    refine lands_value ?_ hSw
    with_reducible rfl
  try simp only [Act.put, List.setIfInBounds_toArray, List.set_cons_zero, List.set_cons_succ]
  refine wpAnyUN_take (i := 22) (oi := _) (some 126) (v := ?v68) rfl rfl (by kernel_rfl) (by kernel_rfl) (by kernel_rfl) (Or.inl ⟨by rfl, ?hy68⟩) ?rest68
  case hy68 =>
    intro w' hSw
    go_simp
    refine lands_value ?_ hSw
    with_reducible rfl
  try simp only [Act.put, List.setIfInBounds_toArray, List.set_cons_zero, List.set_cons_succ]
  refine wpAnyUN_take (i := 23) (oi := _) (some 127) (v := ?v69) rfl rfl (by kernel_rfl) (by kernel_rfl) (by kernel_rfl) (Or.inl ⟨by rfl, ?hy69⟩) ?rest69
  case hy69 =>
    intro w' hSw
    obtain ⟨⟨-, -, -, -, -, b0, b1, o0, o1⟩, ⟨r0, r1⟩, ⟨s0, s1⟩, -, -, -, -⟩ := id hSw
    go_simp
    refine lands_value ?_ hSw
    with_reducible rfl
  try simp only [Act.put, List.setIfInBounds_toArray, List.set_cons_zero, List.set_cons_succ]
  refine wpAnyUN_take (i := 24) (oi := _) (some 128) (v := ?v70) rfl rfl (by kernel_rfl) (by kernel_rfl) (by kernel_rfl) (Or.inl ⟨by rfl, ?hy70⟩) ?rest70
  case hy70 =>
    intro w' hSw
    go_simp
    refine lands_enter ?_
    refine (waits_any A 0 c lost _ hml).mono ?_
    rintro e wx ⟨rfl, hb⟩
    refine ⟨?_, hSw.below hb⟩
    with_reducible rfl
  try simp only [Act.put, List.setIfInBounds_toArray, List.set_cons_zero, List.set_cons_succ]
  refine wpAnyUN_take (i := 25) (oi := _) (some 129) (v := ?v71) rfl rfl (by kernel_rfl) (by kernel_rfl) (by kernel_rfl) (Or.inl ⟨by rfl, ?hy71⟩) ?rest71
  case hy71 =>
    intro w' hSw
    go_simp
    refine lands_value ?_ hSw
    with_reducible rfl
  try simp only [Act.put, List.setIfInBounds_toArray, List.set_cons_zero, List.set_cons_succ]
  refine wpAnyUN_take (i := 26) (oi := _) (some 130) (v := ?v72) rfl rfl (by kernel_rfl) (by kernel_rfl) (by kernel_rfl) (Or.inl ⟨by rfl, ?hy72⟩) ?rest72
  case hy72 =>
    intro w' hSw
    obtain ⟨⟨-, -, -, -, -, b0, b1, o0, o1⟩, ⟨r0, r1⟩, ⟨s0, s1⟩, -, -, -, -⟩ := id hSw
    go_simp
    refine lands_value ?_ hSw
    with_reducible rfl
  try simp only [Act.put, List.setIfInBounds_toArray, List.set_cons_zero, List.set_cons_succ]
  refine wpAnyUN_take (i := 27) (oi := _) (some 131) (v := ?v73) rfl rfl (by kernel_rfl) (by kernel_rfl) (by kernel_rfl) (Or.inl ⟨by rfl, ?hy73⟩) ?rest73
  case hy73 =>
    intro w' hSw
    go_simp
    refine lands_value ?_ hSw
    with_reducible rfl
  try simp only [Act.put, List.setIfInBounds_toArray, List.set_cons_zero, List.set_cons_succ]
  refine wpAnyUN_take (i := 28) (oi := _) (some 132) (v := ?v74) rfl rfl (by kernel_rfl) (by kernel_rfl) (by kernel_rfl) (Or.inl ⟨by rfl, ?hy74⟩) ?rest74
  case hy74 =>
    intro w' hSw
    go_simp
    refine lands_value ?_ hSw
    with_reducible rfl
  try simp only [Act.put, List.setIfInBounds_toArray, List.set_cons_zero, List.set_cons_succ]
  refine wpAnyUN_take (i := 29) (oi := _) (some 133) (v := ?v75) rfl rfl (by kernel_rfl) (by kernel_rfl) (by kernel_rfl) (Or.inl ⟨by rfl, ?hy75⟩) ?rest75
  case hy75 =>
    intro w' hSw
    go_simp
    refine lands_value ?_ hSw
    with_reducible rfl
  try simp only [Act.put, List.setIfInBounds_toArray, List.set_cons_zero, List.set_cons_succ]
  refine wpAnyUN_take (i := 30) (oi := _) (some 134) (v := ?v76) rfl rfl (by kernel_rfl) (by kernel_rfl) (by kernel_rfl) (Or.inl ⟨by rfl, ?hy76⟩) ?rest76
  case hy76 =>
    intro w' hSw
    go_simp
    refine lands_value ?_ hSw
    with_reducible rfl
  try simp only [Act.put, List.setIfInBounds_toArray, List.set_cons_zero, List.set_cons_succ]
  refine wpAnyUN_take (i := 31) (oi := _) (some 135) (v := ?v77) rfl rfl (by kernel_rfl) (by kernel_rfl) (by kernel_rfl) (Or.inl ⟨by rfl, ?hy77⟩) ?rest77
  case hy77 =>
    intro w' hSw
    obtain ⟨⟨-, -, -, -, -, b0, b1, o0, o1⟩, ⟨r0, r1⟩, ⟨s0, s1⟩, -, -, -, -⟩ := id hSw
    go_simp
    refine lands_value ?_ hSw
    with_reducible rfl
  try simp only [Act.put, List.setIfInBounds_toArray, List.set_cons_zero, List.set_cons_succ]
  refine wpAnyUN_take (i := 32) (oi := _) (some 136) (v := ?v78) rfl rfl (by kernel_rfl) (by kernel_rfl) (by kernel_rfl) (Or.inl ⟨by rfl, ?hy78⟩) ?rest78
  case hy78 =>
    intro w' hSw
    obtain ⟨⟨-, -, -, -, -, b0, b1, o0, o1⟩, ⟨r0, r1⟩, ⟨s0, s1⟩, -, -, -, -⟩ := id hSw
    go_simp
    refine lands_value ?_ hSw
    with_reducible rfl
  try simp only [Act.put, List.setIfInBounds_toArray, List.set_cons_zero, List.set_cons_succ]
  refine wpAnyUN_take (i := 33) (oi := _) (some 137) (v := ?v79) rfl rfl (by kernel_rfl) (by kernel_rfl) (by kernel_rfl) (Or.inl ⟨by rfl, ?hy79⟩) ?rest79
  case hy79 =>
    intro w' hSw
    go_simp
    refine lands_enter ?_
    refine (same_any A B 0 c m d lost lost' [] ns _ hSw.2.2.2.1 hSw.2.2.2.2.1 (decide ([] = ns ∧ lost = lost')) (by simp)).mono ?_
    rintro e wx ⟨rfl, hb⟩
    refine ⟨?_, hSw.below hb⟩
    with_reducible rfl
  try simp only [Act.put, List.setIfInBounds_toArray, List.set_cons_zero, List.set_cons_succ]
  refine wpAnyUN_take (i := 34) (oi := _) (some 138) (v := ?v80) rfl rfl (by kernel_rfl) (by kernel_rfl) (by kernel_rfl) (Or.inl ⟨by rfl, ?hy80⟩) ?rest80
  case hy80 =>
    intro w' hSw
    obtain ⟨⟨-, -, -, -, -, b0, b1, o0, o1⟩, ⟨r0, r1⟩, ⟨s0, s1⟩, -, -, -, -⟩ := id hSw
    go_simp
    refine lands_value ?_ hSw
    with_reducible rfl
  try simp only [Act.put, List.setIfInBounds_toArray, List.set_cons_zero, List.set_cons_succ]
  refine wpAnyUN_take (i := 35) (oi := _) (some 139) (v := ?v81) rfl rfl (by kernel_rfl) (by kernel_rfl) (by kernel_rfl) (Or.inl ⟨by rfl, ?hy81⟩) ?rest81
  case hy81 =>
    intro w' hSw
    obtain ⟨⟨-, -, -, -, -, b0, b1, o0, o1⟩, ⟨r0, r1⟩, ⟨s0, s1⟩, -, -, -, -⟩ := id hSw
    go_simp
    refine lands_value ?_ hSw
    with_reducible rfl
  try simp only [Act.put, List.setIfInBounds_toArray, List.set_cons_zero, List.set_cons_succ]
  refine wpAnyUN_take (i := 36) (oi := _) (some 140) (v := ?v82) rfl rfl (by kernel_rfl) (by kernel_rfl) (by kernel_rfl) (Or.inl ⟨by rfl, ?hy82⟩) ?rest82
  case hy82 =>
    intro w' hSw
    go_simp
    refine lands_enter ?_
    refine (rsame_any A B 0 c m d lost lost' [] ns _ hSw.2.2.2.1 hSw.2.2.2.2.1 (decide ([] = ns ∧ lost = lost')) (by simp)).mono ?_
    rintro e wx ⟨rfl, hb⟩
    refine ⟨?_, hSw.below hb⟩
    with_reducible rfl
  try simp only [Act.put, List.setIfInBounds_toArray, List.set_cons_zero, List.set_cons_succ]
  refine wpAnyUN_take (i := 37) (oi := _) (some 141) (v := ?v83) rfl rfl (by kernel_rfl) (by kernel_rfl) (by kernel_rfl) (Or.inl ⟨by rfl, ?hy83⟩) ?rest83
  case hy83 =>
    intro w' hSw
    go_simp
    refine lands_value ?_ hSw
    with_reducible rfl
  try simp only [Act.put, List.setIfInBounds_toArray, List.set_cons_zero, List.set_cons_succ]
  refine wpAnyUN_take (i := 38) (oi := _) (some 142) (v := ?v84) rfl rfl (by kernel_rfl) (by kernel_rfl) (by kernel_rfl) (Or.inl ⟨by rfl, ?hy84⟩) ?rest84
  case hy84 =>
    intro w' hSw
    go_simp
    refine lands_value ?_ hSw
    with_reducible rfl
  try simp only [Act.put, List.setIfInBounds_toArray, List.set_cons_zero, List.set_cons_succ]
  refine wpAnyUN_take (i := 39) (oi := _) (some 143) (v := ?v85) rfl rfl (by kernel_rfl) (by kernel_rfl) (by kernel_rfl) (Or.inl ⟨by rfl, ?hy85⟩) ?rest85
  case hy85 =>
    intro w' hSw
    go_simp
    refine lands_value ?_ hSw
    with_reducible rfl
  try simp only [Act.put, List.setIfInBounds_toArray, List.set_cons_zero, List.set_cons_succ]
  refine wpAnyUN_take (i := 40) (oi := _) (some 144) (v := ?v86) rfl rfl (by kernel_rfl) (by kernel_rfl) (by kernel_rfl) (Or.inl ⟨by rfl, ?hy86⟩) ?rest86
  case hy86 =>
    intro w' hSw
    obtain ⟨⟨-, -, -, -, -, b0, b1, o0, o1⟩, ⟨r0, r1⟩, ⟨s0, s1⟩, -, -, -, -⟩ := id hSw
    go_simp
    refine lands_value ?_ hSw
    with_reducible rfl
  try simp only [Act.put, List.setIfInBounds_toArray, List.set_cons_zero, List.set_cons_succ]
  refine wpAnyUN_take (i := 41) (oi := _) (some 145) (v := ?v87) rfl rfl (by kernel_rfl) (by kernel_rfl) (by kernel_rfl) (Or.inl ⟨by rfl, ?hy87⟩) ?rest87
  case hy87 =>
    intro w' hSw
    obtain ⟨⟨-, -, -, -, -, b0, b1, o0, o1⟩, ⟨r0, r1⟩, ⟨s0, s1⟩, -, -, -, -⟩ := id hSw
    go_simp
    refine lands_value ?_ hSw
    with_reducible rfl
  try simp only [Act.put, List.setIfInBounds_toArray, List.set_cons_zero, List.set_cons_succ]
  refine wpAnyUN_take (i := 42) (oi := _) (some 146) (v := ?v88) rfl rfl (by kernel_rfl) (by kernel_rfl) (by kernel_rfl) (Or.inl ⟨by rfl, ?hy88⟩) ?rest88
  case hy88 =>
    intro w' hSw
    go_simp
    refine lands_enter ?_
    refine (same_any A A 0 c 0 c lost lost [] [] _ hSw.2.2.2.1 hSw.2.2.2.1 true (by simp)).mono ?_
    rintro e wx ⟨rfl, hb⟩
    refine ⟨?_, hSw.below hb⟩
    with_reducible rfl
  try simp only [Act.put, List.setIfInBounds_toArray, List.set_cons_zero, List.set_cons_succ]
  refine wpAnyUN_take (i := 43) (oi := _) (some 147) (v := ?v89) rfl rfl (by kernel_rfl) (by kernel_rfl) (by kernel_rfl) (Or.inl ⟨by rfl, ?hy89⟩) ?rest89
  case hy89 =>
    intro w' hSw
    go_simp
    refine lands_value ?_ hSw
    with_reducible rfl
  try simp only [Act.put, List.setIfInBounds_toArray, List.set_cons_zero, List.set_cons_succ]
  refine wpAnyUN_take (i := 44) (oi := _) (some 2) (v := ?v90) rfl rfl (by kernel_rfl) (by kernel_rfl) (by kernel_rfl) (Or.inl ⟨by rfl, ?hy90⟩) ?rest90
  case hy90 =>
    intro w' hSw
    go_simp
    refine lands_value ?_ hSw
    with_reducible rfl
  try simp only [Act.put, List.setIfInBounds_toArray, List.set_cons_zero, List.set_cons_succ]
  refine wpAnyU_done (by kernel_rfl) (fun w' hSw => ?_) _
  refine NoPanic.normal ?_
  have hEnd := hide hSw.2.2.2.2.2.1
  clear hSw
  go_wp2
  go_ret
  exact ⟨rfl, hEnd.out⟩

end Go.Proofs.Ytepnfhjfjjdpkaa.Port
