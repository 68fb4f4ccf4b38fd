/-
  The walk of PortActs: what is sent, taken, looked at, is as the document says. Conditions: the list has room for one more (24 bytes a message).
-/
import Derived.Test.YtepnfhjfjjdpkaaPortActs1
import Derived.Test.YtepnfhjfjjdpkaaPortShown
import Derived.Deep.QuietTactic
import Derived.BigQuiet
import Derived.Outline
namespace Go.Proofs.Ytepnfhjfjjdpkaa.Port
open Go.RowKit

set_option maxRecDepth 4000 in
set_option maxHeartbeats 4000000 in
theorem acts_some (kind fr to size depth lost now lost' : Int) (A B : Option Addr) (n c m d : Nat) (msg : Msg) (ms ns : List Msg) (body : ByteArray) (w : World) (hA : Rd w A n c (msg :: ms)) (hB : Rd w B m d ns) (hroom : (n + 1) * 24 ≤ 140737488355328) (hm : body.size ≤ maxLen) :
    Calls Try.prog 6 #[.agg #[.int .i64 kind, .int .i64 fr, .int .i64 to, .int .i64 size, .int .i64 depth, .slice A n c, .int .i64 lost, .int .u64 now, .string body, .slice B m d, .int .i64 lost']] w fun e w' => e = .returned (.bool true) ∧ Below w.heap.size w w' := by
  have hnc := hA.2.1
  have hcm : c ≤ 9223372036854775807 := hA.2.2.1
  have hml : n ≤ maxLen := Nat.le_trans hnc hA.2.2.1
  have hn : 0 < n := by have := hA.1; simp at this; omega
  have hn0 : ((n : Int) == 0) = false := by rw [beq_eq_false_iff_ne]; omega
  have hn1 : (0 : Int) < n := by omega
  obtain ⟨b, msg', rfl, hlt, hmm, e0, e1⟩ := hA.at_ hn
  simp at hmm
  subst hmm
  obtain ⟨mt, mb⟩ := msg
  simp only [Nat.zero_mul, Nat.zero_add] at e0 e1
  have hR := hide hA
  have hRo := hide hB
  have hml' := hide hm
  unfold maxLen at hm
  clear hA hB
  go_enter Try.func6, Try.ntmps6
  go_wp2_with fail
  have hK0 : KB w.heap.size kind fr to size depth (some b) n c lost B m d lost' ((((w.alloc (.cells #[.int .i64 kind, .int .i64 fr, .int .i64 to, .int .i64 size, .int .i64 depth, .slice (some b) n c, .int .i64 lost, .int .u64 now, .string body, .slice B m d, .int .i64 lost'] 46)).alloc (.cells #[.int .i64 kind, .int .i64 fr, .int .i64 to, .int .i64 size, .int .i64 depth] 23)).alloc (.cells #[.slice (some b) n c, .int .i64 lost] 26)).alloc (.cells #[.slice B m d, .int .i64 lost'] 26)) := by
    refine ⟨?_, ?_, ?_, ?_, ?_, ?_, ?_, ?_, ?_⟩
    all_goals go_simp
  have hB0 := hide ((((below_new w (.cells #[.int .i64 kind, .int .i64 fr, .int .i64 to, .int .i64 size, .int .i64 depth, .slice (some b) n c, .int .i64 lost, .int .u64 now, .string body, .slice B m d, .int .i64 lost'] 46)).alloc (by simp) (.cells #[.int .i64 kind, .int .i64 fr, .int .i64 to, .int .i64 size, .int .i64 depth] 23)).alloc (by simp <;> omega) (.cells #[.slice (some b) n c, .int .i64 lost] 26)).alloc (by simp <;> omega) (.cells #[.slice B m d, .int .i64 lost'] 26))
  generalize ((((w.alloc (.cells #[.int .i64 kind, .int .i64 fr, .int .i64 to, .int .i64 size, .int .i64 depth, .slice (some b) n c, .int .i64 lost, .int .u64 now, .string body, .slice B m d, .int .i64 lost'] 46)).alloc (.cells #[.int .i64 kind, .int .i64 fr, .int .i64 to, .int .i64 size, .int .i64 depth] 23)).alloc (.cells #[.slice (some b) n c, .int .i64 lost] 26)).alloc (.cells #[.slice B m d, .int .i64 lost'] 26)) = X0 at hK0 hB0 ⊢
  refine (shown_any _).mono ?_
  rintro e w1 ⟨rfl, hb⟩
  have hK := hide (hK0.below hb)
  have hB := hide (hB0.out.trans (hb.mono hB0.out.size))
  clear hb hK0 hB0
  obtain ⟨c0, c1, c2, c3, c4, b0, b1, o0, o1⟩ := hK.out
  have q3 := hK.out.lt
  have q0 : w.heap.size < w1.heap.size := by omega
  have q1 : w.heap.size + 1 < w1.heap.size := by omega
  have q2 : w.heap.size + 1 + 1 < w1.heap.size := by omega
  have hsw := hB.out.size
  go_wp2_with fail
  refine (send_any kind fr to size depth lost now (some b) n c ((mt, mb) :: ms) body _ (by exact hR.out.below hB.out) hroom hml'.out).mono ?_
  rintro e w2 ⟨A1, n1, d1, rfl, -, hR1, hb⟩
  have hK := hide (hK.out.below hb)
  have hB := hide (hB.out.trans (hb.mono hB.out.size))
  have hR1 := hide hR1
  clear hb 
  clear c0 c1 c2 c3 c4 b0 b1 o0 o1 q0 q1 q2 q3 hsw
  obtain ⟨c0, c1, c2, c3, c4, b0, b1, o0, o1⟩ := hK.out
  have q3 := hK.out.lt
  have q0 : w.heap.size < w2.heap.size := by omega
  have q1 : w.heap.size + 1 < w2.heap.size := by omega
  have q2 : w.heap.size + 1 + 1 < w2.heap.size := by omega
  have hsw := hB.out.size
  go_wp2_with fail
  refine (rsend_any kind fr to size depth lost now (some b) n c ((mt, mb) :: ms) body _ (by exact hR.out.below (hB.out.alloc hB.out.size _)) hroom hml'.out).mono ?_
  rintro e w3 ⟨A2, n2, d2, rfl, hR2, hb⟩
  have hN : Below w2.heap.size w2 (w2.alloc (.cells #[.slice A1 n1 d1, .int .i64 (sendX kind size depth ((mt, mb) :: ms) lost body)] 26)) := below_new w2 _
  have hb2 := hN.trans (hb.mono hN.size)
  have hK := hide (hK.out.below hb2)
  have hB := hide (hB.out.trans (hb2.mono hB.out.size))
  have hR1 := hide (hR1.out.below hb2)
  have hx := hide ((P2.new w2 (.slice A1 n1 d1) (.int .i64 (sendX kind size depth ((mt, mb) :: ms) lost body)) 26).below hb)
  have hR2 := hide hR2
  clear hb hN hb2
  clear c0 c1 c2 c3 c4 b0 b1 o0 o1 q0 q1 q2 q3 hsw
  obtain ⟨c0, c1, c2, c3, c4, b0, b1, o0, o1⟩ := hK.out
  have q3 := hK.out.lt
  have q0 : w.heap.size < w3.heap.size := by omega
  have q1 : w.heap.size + 1 < w3.heap.size := by omega
  have q2 : w.heap.size + 1 + 1 < w3.heap.size := by omega
  have hsw := hB.out.size
  go_wp2_with fail
  refine (take_any kind fr to size depth lost (some b) n c (mt, mb) ms _ (by exact hR.out.below (hB.out.alloc hB.out.size _))).mono ?_
  rintro e w4 ⟨A3, n3, d3, rfl, hR3, hb⟩
  have hN : Below w3.heap.size w3 (w3.alloc (.cells #[.slice A2 n2 d2, .int .i64 (sendX kind size depth ((mt, mb) :: ms) lost body)] 26)) := below_new w3 _
  have hb2 := hN.trans (hb.mono hN.size)
  have hK := hide (hK.out.below hb2)
  have hB := hide (hB.out.trans (hb2.mono hB.out.size))
  have hR1 := hide (hR1.out.below hb2)
  have hx := hide (hx.out.below hb2)
  have hR2 := hide (hR2.out.below hb2)
  have hy := hide ((P2.new w3 (.slice A2 n2 d2) (.int .i64 (sendX kind size depth ((mt, mb) :: ms) lost body)) 26).below hb)
  have hR3 := hide hR3
  clear hb hN hb2
  clear c0 c1 c2 c3 c4 b0 b1 o0 o1 q0 q1 q2 q3 hsw
  obtain ⟨c0, c1, c2, c3, c4, b0, b1, o0, o1⟩ := hK.out
  have q3 := hK.out.lt
  have q0 : w.heap.size < w4.heap.size := by omega
  have q1 : w.heap.size + 1 < w4.heap.size := by omega
  have q2 : w.heap.size + 1 + 1 < w4.heap.size := by omega
  have hsw := hB.out.size
  go_wp2_with fail
  refine (rtake_any kind fr to size depth lost (some b) n c (mt, mb) ms _ (by exact hR.out.below ((hB.out.alloc hB.out.size _).alloc (by simp; have := hB.out.size; omega) _)) (by omega)).mono ?_
  rintro e w5 ⟨A4, n4, d4, rfl, hR4, hb⟩
  have hN : Below w4.heap.size w4 ((w4.alloc (.cells #[.slice A3 n3 d3, .int .i64 lost] 26)).alloc (.cells #[.int .u64 mt, .string mb] 39)) := (below_new w4 _).alloc (by simp) _
  have hb2 := hN.trans (hb.mono hN.size)
  have hK := hide (hK.out.below hb2)
  have hB := hide (hB.out.trans (hb2.mono hB.out.size))
  have hR1 := hide (hR1.out.below hb2)
  have hx := hide (hx.out.below hb2)
  have hR2 := hide (hR2.out.below hb2)
  have hy := hide (hy.out.below hb2)
  have hR3 := hide (hR3.out.below hb2)
  have hp := hide ((show P2 w4.heap.size (.slice A3 n3 d3) (.int .i64 lost) ((w4.alloc (.cells #[.slice A3 n3 d3, .int .i64 lost] 26)).alloc (.cells #[.int .u64 mt, .string mb] 39)) from (P2.new w4 (.slice A3 n3 d3) (.int .i64 lost) 26).below (below_new _ _)).below hb)
  have hm1 := hide ((show P2 (w4.heap.size + 1) (.int .u64 mt) (.string mb) ((w4.alloc (.cells #[.slice A3 n3 d3, .int .i64 lost] 26)).alloc (.cells #[.int .u64 mt, .string mb] 39)) from by have := P2.new (w4.alloc (.cells #[.slice A3 n3 d3, .int .i64 lost] 26)) (.int .u64 mt) (.string mb) 39; rwa [World.size_alloc] at this).below hb)
  have hR4 := hide hR4
  clear hb hN hb2
  clear c0 c1 c2 c3 c4 b0 b1 o0 o1 q0 q1 q2 q3 hsw
  obtain ⟨c0, c1, c2, c3, c4, b0, b1, o0, o1⟩ := hK.out
  have q3 := hK.out.lt
  have q0 : w.heap.size < w5.heap.size := by omega
  have q1 : w.heap.size + 1 < w5.heap.size := by omega
  have q2 : w.heap.size + 1 + 1 < w5.heap.size := by omega
  have hsw := hB.out.size
  obtain ⟨x0, x1⟩ := hx.out
  obtain ⟨y0, y1⟩ := hy.out
  have l2 := hx.out.lt
  have l3 := hy.out.lt
  have l2' : w2.heap.size ≤ w5.heap.size := by omega
  have l3' : w3.heap.size ≤ w5.heap.size := by omega
  go_wp2_with fail
  clear x0 x1 y0 y1 l2 l3 l2' l3'
  have hN : Below w5.heap.size w5 ((w5.alloc (.cells #[.slice A4 n4 d4, .int .i64 lost] 26)).alloc (.cells #[.int .u64 mt, .string mb] 39)) := (below_new w5 _).alloc (by simp) _
  have hq := hide (show P2 w5.heap.size (.slice A4 n4 d4) (.int .i64 lost) ((w5.alloc (.cells #[.slice A4 n4 d4, .int .i64 lost] 26)).alloc (.cells #[.int .u64 mt, .string mb] 39)) from (P2.new w5 (.slice A4 n4 d4) (.int .i64 lost) 26).below (below_new _ _))
  have hm2 := hide (show P2 (w5.heap.size + 1) (.int .u64 mt) (.string mb) ((w5.alloc (.cells #[.slice A4 n4 d4, .int .i64 lost] 26)).alloc (.cells #[.int .u64 mt, .string mb] 39)) from by have := P2.new (w5.alloc (.cells #[.slice A4 n4 d4, .int .i64 lost] 26)) (.int .u64 mt) (.string mb) 39; rwa [World.size_alloc] at this)
  have hK := hide (hK.out.below hN)
  have hB := hide (hB.out.trans (hN.mono hB.out.size))
  have hR1 := hide (hR1.out.below hN)
  have hx := hide (hx.out.below hN)
  have hR2 := hide (hR2.out.below hN)
  have hy := hide (hy.out.below hN)
  have hR3 := hide (hR3.out.below hN)
  have hp := hide (hp.out.below hN)
  have hm1 := hide (hm1.out.below hN)
  have hR4 := hide (hR4.out.below hN)
  clear c0 c1 c2 c3 c4 b0 b1 o0 o1 q0 q1 q2 q3 hsw
  clear hN
  generalize ((w5.alloc (.cells #[.slice A4 n4 d4, .int .i64 lost] 26)).alloc (.cells #[.int .u64 mt, .string mb] 39)) = X5 at hR1 hx hR2 hy hR3 hp hm1 hR4 hq hm2 hK hB ⊢
  generalize w2.heap.size = g2 at hx ⊢
  generalize w3.heap.size = g3 at hy ⊢
  generalize w4.heap.size = g4 at hp hm1 ⊢
  generalize w5.heap.size = g5 at hq hm2 ⊢
  obtain ⟨x0, x1⟩ := hx.out
  obtain ⟨y0, y1⟩ := hy.out
  obtain ⟨p0, p1⟩ := hp.out
  obtain ⟨s0, s1⟩ := hq.out
  refine (rsame_any A1 A2 n1 d1 n2 d2 (sendX kind size depth ((mt, mb) :: ms) lost body) (sendX kind size depth ((mt, mb) :: ms) lost body) (sendL kind size depth ((mt, mb) :: ms) now body) (sendL kind size depth ((mt, mb) :: ms) now body) _ hR1.out hR2.out true (by simp)).mono ?_
  rintro e w6 ⟨rfl, hb⟩
  have p0 := (hb.cell (World.block_lt_of_cell? _ _ p0)).trans p0
  have p1 := (hb.cell (World.block_lt_of_cell? _ _ p1)).trans p1
  have s0 := (hb.cell (World.block_lt_of_cell? _ _ s0)).trans s0
  have s1 := (hb.cell (World.block_lt_of_cell? _ _ s1)).trans s1
  have hK := hide (hK.out.below hb)
  have hB := hide (hB.out.trans (hb.mono hB.out.size))
  have hR3 := hide (hR3.out.below hb)
  have hm1 := hide (hm1.out.below hb)
  have hR4 := hide (hR4.out.below hb)
  have hm2 := hide (hm2.out.below hb)
  clear hb x0 x1 y0 y1 hx hy hp hq hR1 hR2
  go_wp2_with fail
  refine (rsame_any A3 A4 n3 d3 n4 d4 lost lost (takeL kind (mt, mb) ms) (takeL kind (mt, mb) ms) _ hR3.out hR4.out true (by simp)).mono ?_
  rintro e w7 ⟨rfl, hb⟩
  have hK := hide (hK.out.below hb)
  have hB := hide (hB.out.trans (hb.mono hB.out.size))
  have hm1 := hide (hm1.out.below hb)
  have hm2 := hide (hm2.out.below hb)
  clear hb p0 p1 s0 s1 hR3 hR4
  obtain ⟨c0, c1, c2, c3, c4, b0, b1, o0, o1⟩ := hK.out
  have q3 := hK.out.lt
  have q0 : w.heap.size < w7.heap.size := by omega
  have q1 : w.heap.size + 1 < w7.heap.size := by omega
  have q2 : w.heap.size + 1 + 1 < w7.heap.size := by omega
  have hsw := hB.out.size
  go_wp2_with fail
  refine (peek_one kind fr to size depth lost (some b) n c (mt, mb) ms _ (by exact hR.out.below hB.out)).mono ?_
  rintro e w8 ⟨rfl, hb⟩
  have hq7 := hK.out.lt
  have hs8 : w7.heap.size ≤ w8.heap.size := hb.size
  have hN : Below w8.heap.size w8 (w8.alloc (.cells #[.int .u64 mt, .string mb] 39)) := below_new _ _
  have hb2 : Below w7.heap.size w7 (w8.alloc (.cells #[.int .u64 mt, .string mb] 39)) := hb.trans (hN.mono hb.size)
  have hK8 := hide (hK.out.below hb)
  have hK := hide (hK.out.below hb2)
  have hB := hide (hB.out.trans (hb2.mono hB.out.size))
  have hm1 := hide (hm1.out.below hb2)
  have hm2 := hide (hm2.out.below hb2)
  have hk := hide (P2.new w8 (.int .u64 mt) (.string mb) 39)
  clear c0 c1 c2 c3 c4 b0 b1 o0 o1 q0 q1 q2 q3 hsw
  clear hb hN hb2
  obtain ⟨k0, k1⟩ := hk.out
  obtain ⟨c0, c1, c2, c3, c4, b0, b1, o0, o1⟩ := hK8.out
  have q0 : w.heap.size < w8.heap.size := by omega
  have q1 : w.heap.size + 1 < w8.heap.size := by omega
  have q2 : w.heap.size + 1 + 1 < w8.heap.size := by omega
  have q3 : w.heap.size + 1 + 1 + 1 < w8.heap.size := by omega
  have e0 := (hB.out.cell hlt).trans e0
  have e1 := (hB.out.cell (p := ⟨b.block, b.off + 1, none⟩) hlt).trans e1
  go_wp2_with fail
  go_quiet (fail)
  go_wp2_with fail
  have hKF : KF w w.heap.size kind fr to size depth (some b) n c lost B m d lost' (g4 + 1) (g5 + 1) mt mb ((mt, mb) :: ms) ns (w8.alloc (.cells #[.int .u64 mt, .string mb] 39)) :=
    ⟨hK.out, hm1.out, hm2.out, hR.out.below hB.out, hRo.out.below hB.out, hB.out, hB.out.size⟩
  have hKF2 := hKF.below (below_drewN _ nq)
  clear hKF hK hm1 hm2 hB k0 k1 c0 c1 c2 c3 c4 b0 b1 o0 o1 q0 q1 q2 q3 hq7 hs8 hK8 hk e0 e1
  refine wp_region_noPanic ?_
  refine wp_region_U (S := KF w w.heap.size kind fr to size depth (some b) n c lost B m d lost' (g4 + 1) (g5 + 1) mt mb ((mt, mb) :: ms) ns) (by kernel_rfl) (hKF2.below ((Below.refl _ _).drew)) ?_
  refine wpAnyUN_take (i := 0) (oi := _) (some 104) (v := ?v1) rfl rfl (by kernel_rfl) (by kernel_rfl) (by kernel_rfl) (Or.inl ⟨by rfl, ?hy1⟩) ?rest1
  case hy1 =>
    intro w' hSw
    go_simp
    refine lands_value ?_ hSw
    with_reducible rfl
  try simp only [Act.put, List.setIfInBounds_toArray, List.set_cons_zero, List.set_cons_succ]
  refine wpAnyUN_take (i := 1) (oi := _) (some 105) (v := ?v2) rfl rfl (by kernel_rfl) (by kernel_rfl) (by kernel_rfl) (Or.inl ⟨by rfl, ?hy2⟩) ?rest2
  case hy2 =>
    intro w' hSw
    go_simp
    refine lands_value ?_ hSw
    with_reducible rfl
  try simp only [Act.put, List.setIfInBounds_toArray, List.set_cons_zero, List.set_cons_succ]
  refine wpAnyUN_take (i := 2) (oi := _) (some 106) (v := ?v3) rfl rfl (by kernel_rfl) (by kernel_rfl) (by kernel_rfl) (Or.inl ⟨by rfl, ?hy3⟩) ?rest3
  case hy3 =>
    intro w' hSw
    go_simp
    refine lands_value ?_ hSw
    with_reducible rfl
  try simp only [Act.put, List.setIfInBounds_toArray, List.set_cons_zero, List.set_cons_succ]
  refine wpAnyUN_take (i := 3) (oi := _) (some 107) (v := ?v4) rfl rfl (by kernel_rfl) (by kernel_rfl) (by kernel_rfl) (Or.inl ⟨by rfl, ?hy4⟩) ?rest4
  case hy4 =>
    intro w' hSw
    go_simp
    refine lands_value ?_ hSw
    with_reducible rfl
  try simp only [Act.put, List.setIfInBounds_toArray, List.set_cons_zero, List.set_cons_succ]
  refine wpAnyUN_take (i := 4) (oi := _) (some 108) (v := ?v5) rfl rfl (by kernel_rfl) (by kernel_rfl) (by kernel_rfl) (Or.inl ⟨by rfl, ?hy5⟩) ?rest5
  case hy5 =>
    intro w' hSw
    go_simp
    refine lands_value ?_ hSw
    with_reducible rfl
  try simp only [Act.put, List.setIfInBounds_toArray, List.set_cons_zero, List.set_cons_succ]
  refine wpAnyUN_take (i := 5) (oi := _) (some 109) (v := ?v6) rfl rfl (by kernel_rfl) (by kernel_rfl) (by kernel_rfl) (Or.inl ⟨by rfl, ?hy6⟩) ?rest6
  case hy6 =>
    intro w' hSw
    go_simp
    refine lands_value ?_ hSw
    with_reducible rfl
  try simp only [Act.put, List.setIfInBounds_toArray, List.set_cons_zero, List.set_cons_succ]
  refine wpAnyUN_take (i := 6) (oi := _) (some 110) (v := ?v7) rfl rfl (by kernel_rfl) (by kernel_rfl) (by kernel_rfl) (Or.inl ⟨by rfl, ?hy7⟩) ?rest7
  case hy7 =>
    intro w' hSw
    go_simp
    refine lands_value ?_ hSw
    with_reducible rfl
  try simp only [Act.put, List.setIfInBounds_toArray, List.set_cons_zero, List.set_cons_succ]
  refine wpAnyUN_take (i := 7) (oi := _) (some 111) (v := ?v8) rfl rfl (by kernel_rfl) (by kernel_rfl) (by kernel_rfl) (Or.inl ⟨by rfl, ?hy8⟩) ?rest8
  case hy8 =>
    intro w' hSw
    go_simp
    refine lands_value ?_ hSw
    with_reducible rfl
  try simp only [Act.put, List.setIfInBounds_toArray, List.set_cons_zero, List.set_cons_succ]
  refine wpAnyUN_take (i := 8) (oi := _) (some 112) (v := ?v9) rfl rfl (by kernel_rfl) (by kernel_rfl) (by kernel_rfl) (Or.inl ⟨by rfl, ?hy9⟩) ?rest9
  case hy9 =>
    intro w' hSw
    go_simp
    refine lands_value ?_ hSw
    with_reducible rfl
  try simp only [Act.put, List.setIfInBounds_toArray, List.set_cons_zero, List.set_cons_succ]
  refine wpAnyUN_take (i := 9) (oi := _) (some 113) (v := ?v10) rfl rfl (by kernel_rfl) (by kernel_rfl) (by kernel_rfl) (Or.inl ⟨by rfl, ?hy10⟩) ?rest10
  case hy10 =>
    intro w' hSw
    go_simp
    refine lands_value ?_ hSw
    with_reducible rfl
  try simp only [Act.put, List.setIfInBounds_toArray, List.set_cons_zero, List.set_cons_succ]
  refine wpAnyUN_take (i := 10) (oi := _) (some 114) (v := ?v11) rfl rfl (by kernel_rfl) (by kernel_rfl) (by kernel_rfl) (Or.inl ⟨by rfl, ?hy11⟩) ?rest11
  case hy11 =>
    intro w' hSw
    obtain ⟨⟨-, -, -, -, -, b0, b1, o0, o1⟩, ⟨r0, r1⟩, ⟨s0, s1⟩, -, -, -, -⟩ := id hSw
    go_simp
    refine lands_value ?_ hSw
    with_reducible rfl
  try simp only [Act.put, List.setIfInBounds_toArray, List.set_cons_zero, List.set_cons_succ]
  refine wpAnyUN_take (i := 11) (oi := _) (some 115) (v := ?v12) rfl rfl (by kernel_rfl) (by kernel_rfl) (by kernel_rfl) (Or.inl ⟨by rfl, ?hy12⟩) ?rest12
  case hy12 =>
    intro w' hSw
    obtain ⟨⟨-, -, -, -, -, b0, b1, o0, o1⟩, ⟨r0, r1⟩, ⟨s0, s1⟩, -, -, -, -⟩ := id hSw
    go_simp
    refine lands_value ?_ hSw
    with_reducible rfl
  try simp only [Act.put, List.setIfInBounds_toArray, List.set_cons_zero, List.set_cons_succ]
  refine wpAnyUN_take (i := 12) (oi := _) (some 116) (v := ?v13) rfl rfl (by kernel_rfl) (by kernel_rfl) (by kernel_rfl) (Or.inl ⟨by rfl, ?hy13⟩) ?rest13
  case hy13 =>
    intro w' hSw
    go_simp
    refine lands_value ?_ hSw
    with_reducible rfl
  try simp only [Act.put, List.setIfInBounds_toArray, List.set_cons_zero, List.set_cons_succ]
  refine wpAnyUN_take (i := 13) (oi := _) (some 117) (v := ?v14) rfl rfl (by kernel_rfl) (by kernel_rfl) (by kernel_rfl) (Or.inl ⟨by rfl, ?hy14⟩) ?rest14
  case hy14 =>
    intro w' hSw
    go_simp
    refine lands_value ?_ hSw
    with_reducible rfl
  try simp only [Act.put, List.setIfInBounds_toArray, List.set_cons_zero, List.set_cons_succ]
  refine wpAnyUN_take (i := 14) (oi := _) (some 118) (v := ?v15) rfl rfl (by kernel_rfl) (by kernel_rfl) (by kernel_rfl) (Or.inl ⟨by rfl, ?hy15⟩) ?rest15
  case hy15 =>
    intro w' hSw
    go_simp
    refine lands_value ?_ hSw
    with_reducible rfl
  try simp only [Act.put, List.setIfInBounds_toArray, List.set_cons_zero, List.set_cons_succ]
  refine wpAnyUN_take (i := 15) (oi := _) (some 119) (v := ?v16) rfl rfl (by kernel_rfl) (by kernel_rfl) (by kernel_rfl) (Or.inl ⟨by rfl, ?hy16⟩) ?rest16
  case hy16 =>
    intro w' hSw
    go_simp
    refine lands_value ?_ hSw
    with_reducible rfl
  try simp only [Act.put, List.setIfInBounds_toArray, List.set_cons_zero, List.set_cons_succ]
  refine wpAnyUN_take (i := 16) (oi := _) (some 120) (v := ?v17) rfl rfl (by kernel_rfl) (by kernel_rfl) (by kernel_rfl) (Or.inl ⟨by rfl, ?hy17⟩) ?rest17
  case hy17 =>
    intro w' hSw
    go_simp
    refine lands_value ?_ hSw
    with_reducible rfl
  try simp only [Act.put, List.setIfInBounds_toArray, List.set_cons_zero, List.set_cons_succ]
  refine wpAnyUN_take (i := 17) (oi := _) (some 121) (v := ?v18) rfl rfl (by kernel_rfl) (by kernel_rfl) (by kernel_rfl) (Or.inl ⟨by rfl, ?hy18⟩) ?rest18
  case hy18 =>
    intro w' hSw
    go_simp
    refine lands_value ?_ hSw
    with_reducible rfl
  try simp only [Act.put, List.setIfInBounds_toArray, List.set_cons_zero, List.set_cons_succ]
  refine wpAnyUN_take (i := 18) (oi := _) (some 122) (v := ?v19) rfl rfl (by kernel_rfl) (by kernel_rfl) (by kernel_rfl) (Or.inl ⟨by rfl, ?hy19⟩) ?rest19
  case hy19 =>
    intro w' hSw
    go_simp
    refine lands_value ?_ hSw
    with_reducible rfl
  try simp only [Act.put, List.setIfInBounds_toArray, List.set_cons_zero, List.set_cons_succ]
  refine wpAnyUN_take (i := 19) (oi := _) (some 123) (v := ?v20) rfl rfl (by kernel_rfl) (by kernel_rfl) (by kernel_rfl) (Or.inl ⟨by rfl, ?hy20⟩) ?rest20
  case hy20 =>
    intro w' hSw
    go_simp
    refine lands_value ?_ hSw
    with_reducible rfl
  try simp only [Act.put, List.setIfInBounds_toArray, List.set_cons_zero, List.set_cons_succ]
  refine wpAnyUN_take (i := 20) (oi := _) (some 124) (v := ?v21) rfl rfl (by kernel_rfl) (by kernel_rfl) (by kernel_rfl) (Or.inl ⟨by rfl, ?hy21⟩) ?rest21
  case hy21 =>
    intro w' hSw
    go_simp
    refine lands_value ?_ hSw
    with_reducible rfl
  try simp only [Act.put, List.setIfInBounds_toArray, List.set_cons_zero, List.set_cons_succ]
  refine wpAnyUN_take (i := 21) (oi := _) (some 125) (v := ?v22) rfl rfl (by kernel_rfl) (by kernel_rfl) (by kernel_rfl) (Or.inl ⟨by rfl, ?hy22⟩) ?rest22
  case hy22 =>
    intro w' hSw
    go_simp
    refine lands_value ?_ hSw
    with_reducible rfl
  try simp only [Act.put, List.setIfInBounds_toArray, List.set_cons_zero, List.set_cons_succ]
  refine wpAnyUN_take (i := 22) (oi := _) (some 126) (v := ?v23) rfl rfl (by kernel_rfl) (by kernel_rfl) (by kernel_rfl) (Or.inl ⟨by rfl, ?hy23⟩) ?rest23
  case hy23 =>
    intro w' hSw
    go_simp
    refine lands_value ?_ hSw
    with_reducible rfl
  try simp only [Act.put, List.setIfInBounds_toArray, List.set_cons_zero, List.set_cons_succ]
  refine wpAnyUN_take (i := 23) (oi := _) (some 127) (v := ?v24) rfl rfl (by kernel_rfl) (by kernel_rfl) (by kernel_rfl) (Or.inl ⟨by rfl, ?hy24⟩) ?rest24
  case hy24 =>
    intro w' hSw
    obtain ⟨⟨-, -, -, -, -, b0, b1, o0, o1⟩, ⟨r0, r1⟩, ⟨s0, s1⟩, -, -, -, -⟩ := id hSw
    go_simp
    refine lands_value ?_ hSw
    with_reducible rfl
  try simp only [Act.put, List.setIfInBounds_toArray, List.set_cons_zero, List.set_cons_succ]
  refine wpAnyUN_take (i := 24) (oi := _) (some 128) (v := ?v25) rfl rfl (by kernel_rfl) (by kernel_rfl) (by kernel_rfl) (Or.inl ⟨by rfl, ?hy25⟩) ?rest25
  case hy25 =>
    intro w' hSw
    go_simp
    refine lands_enter ?_
    refine (waits_any (some b) n c lost _ hml).mono ?_
    rintro e wx ⟨rfl, hb⟩
    refine ⟨?_, hSw.below hb⟩
    with_reducible rfl
  try simp only [Act.put, List.setIfInBounds_toArray, List.set_cons_zero, List.set_cons_succ]
  refine wpAnyUN_take (i := 25) (oi := _) (some 129) (v := ?v26) rfl rfl (by kernel_rfl) (by kernel_rfl) (by kernel_rfl) (Or.inl ⟨by rfl, ?hy26⟩) ?rest26
  case hy26 =>
    intro w' hSw
    go_simp
    refine lands_value ?_ hSw
    with_reducible rfl
  try simp only [Act.put, List.setIfInBounds_toArray, List.set_cons_zero, List.set_cons_succ]
  refine wpAnyUN_take (i := 26) (oi := _) (some 130) (v := ?v27) rfl rfl (by kernel_rfl) (by kernel_rfl) (by kernel_rfl) (Or.inl ⟨by rfl, ?hy27⟩) ?rest27
  case hy27 =>
    intro w' hSw
    obtain ⟨⟨-, -, -, -, -, b0, b1, o0, o1⟩, ⟨r0, r1⟩, ⟨s0, s1⟩, -, -, -, -⟩ := id hSw
    go_simp
    refine lands_value ?_ hSw
    with_reducible rfl
  try simp only [Act.put, List.setIfInBounds_toArray, List.set_cons_zero, List.set_cons_succ]
  refine wpAnyUN_take (i := 27) (oi := _) (some 131) (v := ?v28) rfl rfl (by kernel_rfl) (by kernel_rfl) (by kernel_rfl) (Or.inl ⟨by rfl, ?hy28⟩) ?rest28
  case hy28 =>
    intro w' hSw
    go_simp
    refine lands_value ?_ hSw
    with_reducible rfl
  try simp only [Act.put, List.setIfInBounds_toArray, List.set_cons_zero, List.set_cons_succ]
  refine wpAnyUN_take (i := 28) (oi := _) (some 132) (v := ?v29) rfl rfl (by kernel_rfl) (by kernel_rfl) (by kernel_rfl) (Or.inl ⟨by rfl, ?hy29⟩) ?rest29
  case hy29 =>
    intro w' hSw
    go_simp
    refine lands_value ?_ hSw
    with_reducible rfl
  try simp only [Act.put, List.setIfInBounds_toArray, List.set_cons_zero, List.set_cons_succ]
  refine wpAnyUN_take (i := 29) (oi := _) (some 133) (v := ?v30) rfl rfl (by kernel_rfl) (by kernel_rfl) (by kernel_rfl) (Or.inl ⟨by rfl, ?hy30⟩) ?rest30
  case hy30 =>
    intro w' hSw
    go_simp
    refine lands_value ?_ hSw
    with_reducible rfl
  try simp only [Act.put, List.setIfInBounds_toArray, List.set_cons_zero, List.set_cons_succ]
  refine wpAnyUN_take (i := 30) (oi := _) (some 134) (v := ?v31) rfl rfl (by kernel_rfl) (by kernel_rfl) (by kernel_rfl) (Or.inl ⟨by rfl, ?hy31⟩) ?rest31
  case hy31 =>
    intro w' hSw
    go_simp
    refine lands_value ?_ hSw
    with_reducible rfl
  try simp only [Act.put, List.setIfInBounds_toArray, List.set_cons_zero, List.set_cons_succ]
  refine wpAnyUN_take (i := 31) (oi := _) (some 135) (v := ?v32) rfl rfl (by kernel_rfl) (by kernel_rfl) (by kernel_rfl) (Or.inl ⟨by rfl, ?hy32⟩) ?rest32
  case hy32 =>
    intro w' hSw
    obtain ⟨⟨-, -, -, -, -, b0, b1, o0, o1⟩, ⟨r0, r1⟩, ⟨s0, s1⟩, -, -, -, -⟩ := id hSw
    go_simp
    refine lands_value ?_ hSw
    with_reducible rfl
  try simp only [Act.put, List.setIfInBounds_toArray, List.set_cons_zero, List.set_cons_succ]
  refine wpAnyUN_take (i := 32) (oi := _) (some 136) (v := ?v33) rfl rfl (by kernel_rfl) (by kernel_rfl) (by kernel_rfl) (Or.inl ⟨by rfl, ?hy33⟩) ?rest33
  case hy33 =>
    intro w' hSw
    obtain ⟨⟨-, -, -, -, -, b0, b1, o0, o1⟩, ⟨r0, r1⟩, ⟨s0, s1⟩, -, -, -, -⟩ := id hSw
    go_simp
    refine lands_value ?_ hSw
    with_reducible rfl
  try simp only [Act.put, List.setIfInBounds_toArray, List.set_cons_zero, List.set_cons_succ]
  refine wpAnyUN_take (i := 33) (oi := _) (some 137) (v := ?v34) rfl rfl (by kernel_rfl) (by kernel_rfl) (by kernel_rfl) (Or.inl ⟨by rfl, ?hy34⟩) ?rest34
  case hy34 =>
    intro w' hSw
    go_simp
    refine lands_enter ?_
    refine (same_any (some b) B n c m d lost lost' ((mt, mb) :: ms) ns _ hSw.2.2.2.1 hSw.2.2.2.2.1 (decide (((mt, mb) :: ms) = ns ∧ lost = lost')) (by simp)).mono ?_
    rintro e wx ⟨rfl, hb⟩
    refine ⟨?_, hSw.below hb⟩
    with_reducible rfl
  try simp only [Act.put, List.setIfInBounds_toArray, List.set_cons_zero, List.set_cons_succ]
  refine wpAnyUN_take (i := 34) (oi := _) (some 138) (v := ?v35) rfl rfl (by kernel_rfl) (by kernel_rfl) (by kernel_rfl) (Or.inl ⟨by rfl, ?hy35⟩) ?rest35
  case hy35 =>
    intro w' hSw
    obtain ⟨⟨-, -, -, -, -, b0, b1, o0, o1⟩, ⟨r0, r1⟩, ⟨s0, s1⟩, -, -, -, -⟩ := id hSw
    go_simp
    refine lands_value ?_ hSw
    with_reducible rfl
  try simp only [Act.put, List.setIfInBounds_toArray, List.set_cons_zero, List.set_cons_succ]
  refine wpAnyUN_take (i := 35) (oi := _) (some 139) (v := ?v36) rfl rfl (by kernel_rfl) (by kernel_rfl) (by kernel_rfl) (Or.inl ⟨by rfl, ?hy36⟩) ?rest36
  case hy36 =>
    intro w' hSw
    obtain ⟨⟨-, -, -, -, -, b0, b1, o0, o1⟩, ⟨r0, r1⟩, ⟨s0, s1⟩, -, -, -, -⟩ := id hSw
    go_simp
    refine lands_value ?_ hSw
    with_reducible rfl
  try simp only [Act.put, List.setIfInBounds_toArray, List.set_cons_zero, List.set_cons_succ]
  refine wpAnyUN_take (i := 36) (oi := _) (some 140) (v := ?v37) rfl rfl (by kernel_rfl) (by kernel_rfl) (by kernel_rfl) (Or.inl ⟨by rfl, ?hy37⟩) ?rest37
  case hy37 =>
    intro w' hSw
    go_simp
    refine lands_enter ?_
    refine (rsame_any (some b) B n c m d lost lost' ((mt, mb) :: ms) ns _ hSw.2.2.2.1 hSw.2.2.2.2.1 (decide (((mt, mb) :: ms) = ns ∧ lost = lost')) (by simp)).mono ?_
    rintro e wx ⟨rfl, hb⟩
    refine ⟨?_, hSw.below hb⟩
    with_reducible rfl
  try simp only [Act.put, List.setIfInBounds_toArray, List.set_cons_zero, List.set_cons_succ]
  refine wpAnyUN_take (i := 37) (oi := _) (some 141) (v := ?v38) rfl rfl (by kernel_rfl) (by kernel_rfl) (by kernel_rfl) (Or.inl ⟨by rfl, ?hy38⟩) ?rest38
  case hy38 =>
    intro w' hSw
    go_simp
    refine lands_value ?_ hSw
    with_reducible rfl
  try simp only [Act.put, List.setIfInBounds_toArray, List.set_cons_zero, List.set_cons_succ]
  refine wpAnyUN_take (i := 38) (oi := _) (some 142) (v := ?v39) rfl rfl (by kernel_rfl) (by kernel_rfl) (by kernel_rfl) (Or.inl ⟨by rfl, ?hy39⟩) ?rest39
  case hy39 =>
    intro w' hSw
    go_simp
    refine lands_value ?_ hSw
    with_reducible rfl
  try simp only [Act.put, List.setIfInBounds_toArray, List.set_cons_zero, List.set_cons_succ]
  refine wpAnyUN_take (i := 39) (oi := _) (some 143) (v := ?v40) rfl rfl (by kernel_rfl) (by kernel_rfl) (by kernel_rfl) (Or.inl ⟨by rfl, ?hy40⟩) ?rest40
  case hy40 =>
    intro w' hSw
    go_simp
    refine lands_value ?_ hSw
    with_reducible rfl
  try simp only [Act.put, List.setIfInBounds_toArray, List.set_cons_zero, List.set_cons_succ]
  refine wpAnyUN_take (i := 40) (oi := _) (some 144) (v := ?v41) rfl rfl (by kernel_rfl) (by kernel_rfl) (by kernel_rfl) (Or.inl ⟨by rfl, ?hy41⟩) ?rest41
  case hy41 =>
    intro w' hSw
    obtain ⟨⟨-, -, -, -, -, b0, b1, o0, o1⟩, ⟨r0, r1⟩, ⟨s0, s1⟩, -, -, -, -⟩ := id hSw
    go_simp
    refine lands_value ?_ hSw
    with_reducible rfl
  try simp only [Act.put, List.setIfInBounds_toArray, List.set_cons_zero, List.set_cons_succ]
  refine wpAnyUN_take (i := 41) (oi := _) (some 145) (v := ?v42) rfl rfl (by kernel_rfl) (by kernel_rfl) (by kernel_rfl) (Or.inl ⟨by rfl, ?hy42⟩) ?rest42
  case hy42 =>
    intro w' hSw
    obtain ⟨⟨-, -, -, -, -, b0, b1, o0, o1⟩, ⟨r0, r1⟩, ⟨s0, s1⟩, -, -, -, -⟩ := id hSw
    go_simp
    refine lands_value ?_ hSw
    with_reducible rfl
  try simp only [Act.put, List.setIfInBounds_toArray, List.set_cons_zero, List.set_cons_succ]
  refine wpAnyUN_take (i := 42) (oi := _) (some 146) (v := ?v43) rfl rfl (by kernel_rfl) (by kernel_rfl) (by kernel_rfl) (Or.inl ⟨by rfl, ?hy43⟩) ?rest43
  case hy43 =>
    intro w' hSw
    go_simp
    refine lands_enter ?_
    refine (same_any (some b) (some b) n c n c lost lost ((mt, mb) :: ms) ((mt, mb) :: ms) _ hSw.2.2.2.1 hSw.2.2.2.1 true (by simp)).mono ?_
    rintro e wx ⟨rfl, hb⟩
    refine ⟨?_, hSw.below hb⟩
    with_reducible rfl
  try simp only [Act.put, List.setIfInBounds_toArray, List.set_cons_zero, List.set_cons_succ]
  refine wpAnyUN_take (i := 43) (oi := _) (some 147) (v := ?v44) rfl rfl (by kernel_rfl) (by kernel_rfl) (by kernel_rfl) (Or.inl ⟨by rfl, ?hy44⟩) ?rest44
  case hy44 =>
    intro w' hSw
    go_simp
    refine lands_value ?_ hSw
    with_reducible rfl
  try simp only [Act.put, List.setIfInBounds_toArray, List.set_cons_zero, List.set_cons_succ]
  refine wpAnyUN_take (i := 44) (oi := _) (some 2) (v := ?v45) rfl rfl (by kernel_rfl) (by kernel_rfl) (by kernel_rfl) (Or.inl ⟨by rfl, ?hy45⟩) ?rest45
  case hy45 =>
    intro w' hSw
    go_simp
    refine lands_value ?_ hSw
    with_reducible rfl
  try simp only [Act.put, List.setIfInBounds_toArray, List.set_cons_zero, List.set_cons_succ]
  refine wpAnyU_done (by kernel_rfl) (fun w' hSw => ?_) _
  refine NoPanic.normal ?_
  have hEnd := hide hSw.2.2.2.2.2.1
  clear hSw
  go_wp2
  go_ret
  exact ⟨rfl, hEnd.out⟩

end Go.Proofs.Ytepnfhjfjjdpkaa.Port
