/-
  The walk of isa.Back: the program of bytes. Conditions: the table isa.uses as laid; at most 4194304 bytes.
-/
import Derived.Test.YtjiamhoabbjkmaaDoorRowAppend
import Derived.Test.YtjiamhoabbjkmaaDoorRegionU
import Derived.Test.YtjiamhoabbjkmaaDoorIsaList
import Derived.Test.YtjiamhoabbjkmaaDoorIsaWord
import Derived.Deep.RegionHeld3
import Derived.LoopTactic
import Derived.Deep.LoopGhost
import Derived.Outline
import Derived.IntWalk
namespace Go.Proofs.YtjiamhoabbjkmaaDoor.Isa
open Go.RowKit

theorem infoIns : (Tryd.prog.info? 23).map (fun i => (i.zero, i.size, i.bytes)) = some (some (.agg #[.int .i64 0, .int .i64 0, .int .i64 0, .int .i64 0]), 4, 32) := by kernel_rfl

/-- one instruction's cells in a block of its own -/
theorem rdC_ins {w : World} {b : Nat} {o x y z : Int} (h0 : w.cell? ⟨b, 0, none⟩ = some (.int .i64 o)) (h1 : w.cell? ⟨b, 1, none⟩ = some (.int .i64 x)) (h2 : w.cell? ⟨b, 2, none⟩ = some (.int .i64 y)) (h3 : w.cell? ⟨b, 3, none⟩ = some (.int .i64 z)) :
    RdC w 4 (some ⟨b, 0, none⟩) 1 1 [.int .i64 o, .int .i64 x, .int .i64 y, .int .i64 z] := by
  refine ⟨rfl, Nat.le_refl _, by simp [maxLen], (fun h => by cases h), fun q hq => ?_⟩
  injection hq with hq
  subst hq
  refine ⟨fun _ => World.block_lt_of_cell? _ _ h0, fun j u hu => ?_⟩
  have e : (⟨b, 0, none⟩ : Addr).add j = ⟨b, j, none⟩ := by unfold Addr.add; split <;> simp_all
  rw [e]
  match j, hu with
  | 0, hu => simp at hu; subst hu; exact h0
  | 1, hu => simp at hu; subst hu; exact h1
  | 2, hu => simp at hu; subst hu; exact h2
  | 3, hu => simp at hu; subst hu; exact h3
theorem one_ins (o x y z : Int) : ∀ u ∈ [Value.int .i64 o, Value.int .i64 x, Value.int .i64 y, Value.int .i64 z], u.oneCell' = true := by simp [Value.oneCell']
theorem cell_up {w : World} {p : Addr} {v : Value} (h : w.cell? p = some v) (o : Obj) : (w.alloc o).cell? p = some v := ((below_new w o).cell (World.block_lt_of_cell? _ _ h)).trans h

/-- behind the instruction's taking: its cells, the list so far, what lay before -/
def BK (w0 : World) (h : Nat) (o x y z : Int) (V : Value) (k : Nat) (cs : List Value) (w : World) : Prop :=
  w.cell? ⟨h, 0, none⟩ = some (.int .i64 o) ∧ w.cell? ⟨h, 1, none⟩ = some (.int .i64 x) ∧ w.cell? ⟨h, 2, none⟩ = some (.int .i64 y) ∧ w.cell? ⟨h, 3, none⟩ = some (.int .i64 z) ∧
  w.ownsRow w0.heap.size 23 4 V k cs ∧ Below w0.heap.size w0 w
theorem own_keep {w w' : World} {base size n : Nat} {e : TypeId} {v : Value} {xs : List Value} (h : w.ownsRow base e size v n xs) (hb : Below w.heap.size w w') : w'.ownsRow base e size v n xs := by
  obtain ⟨h1, h2⟩ := h
  refine ⟨h1, ?_⟩
  rcases h2 with ⟨hv, rfl⟩ | ⟨g, cap, cur, hv, hg, hh, rest⟩
  · exact .inl ⟨hv, rfl⟩
  · have hlt : g < w.heap.size := by
      rcases Nat.lt_or_ge g w.heap.size with h | h
      · exact h
      · rw [Array.getElem?_eq_none h] at hh; cases hh
    exact .inr ⟨g, cap, cur, hv, hg, by rw [hb.block g hlt]; exact hh, rest⟩

set_option maxHeartbeats 400000 in
theorem back_more (s : ByteArray) (w : World) (hs : s.size ≤ 4194304) (h : ¬ s.size % 4 = 0) :
    Calls Tryd.prog 18 #[.string s] w fun e w' => e = .returned (.tuple #[.slice none 0 0, .int .i64 2]) ∧ Below w.heap.size w w' := by
  have hne : ((s.size : Int) % 4 != 0) = true := by rw [bne_iff_ne]; omega
  go_enter Tryd.func18, Tryd.ntmps18
  go_wp2
  go_ret2
  exact ⟨rfl, Below.refl _ _⟩

/-- what comes back: an error, or none -/
def backE (s : ByteArray) : Int := if s.size % 4 = 0 then (if (allB s.data.toList (s.size / 4)) = true then 0 else 11) else 2
def backR (s : ByteArray) : List Ins := if backE s = 0 then backL s.data.toList (s.size / 4) else []

set_option maxHeartbeats 3200000 in
theorem back_loop (s : ByteArray) (w : World) (hT : Tab w) (hs : s.size ≤ 4194304) (h : s.size % 4 = 0) :
    Calls Tryd.prog 18 #[.string s] w fun e w' => ∃ A n c, e = .returned (.tuple #[.slice A n c, .int .i64 (backE s)]) ∧ RdC w' 4 A n c (cellsI (backR s)) ∧ Below w.heap.size w w' := by
  have hne : ((s.size : Int) % 4 != 0) = false := by rw [bne_eq_false_iff_eq]; omega
  have hT' := hide hT
  have H4 := hide h
  clear hT h
  obtain ⟨i0x, hi, hz0, hz1, hz2⟩ := info_parts infoIns
  go_enter Tryd.func18, Tryd.ntmps18
  go_wp2
  go_loopw [4, 5] (fun v i wr => ∃ (p k : Nat) (V : Value), V = v ∧ p ≤ s.size ∧ Hid (p = k * 4) ∧ i = .int .i64 p ∧ Hid (allW s.data.toList k) ∧ Hid (wr.ownsRow w.heap.size 23 4 v k (cellsI (backL s.data.toList k))) ∧ Hid (Below w.heap.size w wr)) (fun _ i _ => s.size - (intOf i).toNat)
  case atStart => exact ⟨0, 0, _, rfl, Nat.zero_le _, rfl, rfl, (fun j hj => by omega), World.ownsRow_nil w _ _ _, Below.refl _ _⟩
  case round =>
    obtain ⟨p, k, V, rfl, hp, hpk, rfl, hW, hO, hB'⟩ := hrel
    by_cases hlt : p < s.size
    · have hlt3 : p + 3 < s.size := by have := hpk.out; have := H4.out; omega
      have i0 : (p : Int) < s.size := by omega
      have i1 : (p : Int) + 1 < s.size := by omega
      have i2 : (p : Int) + 2 < s.size := by omega
      have i3 : (p : Int) + 3 < s.size := by omega
      have j1 : p + 1 < s.size := by omega
      have j2 : p + 2 < s.size := by omega
      have j3 : p + 3 < s.size := by omega
      have z0 : (0 : Int) ≤ (p : Int) := Int.natCast_nonneg _
      have z1 : (0 : Int) ≤ (p : Int) + 1 := by omega
      have z2 : (0 : Int) ≤ (p : Int) + 2 := by omega
      have z3 : (0 : Int) ≤ (p : Int) + 3 := by omega
      have w1 : IntKind.i64.wrap ((p : Int) + 1) = (p : Int) + 1 := IntWalk.i64_in _ (by omega)
      have w2 : IntKind.i64.wrap ((p : Int) + 2) = (p : Int) + 2 := IntWalk.i64_in _ (by omega)
      have w3 : IntKind.i64.wrap ((p : Int) + 3) = (p : Int) + 3 := IntWalk.i64_in _ (by omega)
      have t1 : ((p : Int) + 1).toNat = p + 1 := by omega
      have t2 : ((p : Int) + 2).toNat = p + 2 := by omega
      have t3 : ((p : Int) + 3).toNat = p + 3 := by omega
      have i0' : p < s.size := hlt
      have hkb : k ≤ 1048576 := by have := hpk.out; omega
      go_wp2_with fail
      obtain ⟨r0, r1⟩ := wordAt_range s.data.toList p
      by_cases hI : isW (wordAt s.data.toList p) = true
      · have HI := hide hI
        clear hI
        refine wp_region_noPanic ?_
        refine wp_region_held_drew (S := fun w' => Hid (Below wr.heap.size wr w')) (by kernel_rfl) (keep_drew _) (fun hHeld => ?_)
        refine wpAnyHN_take (i := 0) (oi := _) (some 19) (v := ?v1) rfl rfl (by kernel_rfl) (by kernel_rfl) (by kernel_rfl) (Or.inl ⟨by rfl, ?hy1⟩) hHeld ?rest1
        case hy1 =>
          intro w' hSw
          clear hSw
          go_simp
          try (with_reducible rfl)
        try simp only [Act.put, List.setIfInBounds_toArray, List.set_cons_zero, List.set_cons_succ]
        refine wpAnyHN_take (i := 1) (oi := _) (some 20) (v := ?v2) rfl rfl (by kernel_rfl) (by kernel_rfl) (by kernel_rfl) (Or.inl ⟨by rfl, ?hy2⟩) hHeld ?rest2
        case hy2 =>
          intro w' hSw
          clear hSw
          go_simp
          try (with_reducible rfl)
        try simp only [Act.put, List.setIfInBounds_toArray, List.set_cons_zero, List.set_cons_succ]
        refine wpAnyHN_take (i := 2) (oi := _) (some 21) (v := ?v3) rfl rfl (by kernel_rfl) (by kernel_rfl) (by kernel_rfl) (Or.inl ⟨by rfl, ?hy3⟩) hHeld ?rest3
        case hy3 =>
          intro w' hSw
          clear hSw
          go_simp
          try (with_reducible rfl)
        try simp only [Act.put, List.setIfInBounds_toArray, List.set_cons_zero, List.set_cons_succ]
        refine wpAnyHN_take (i := 3) (oi := _) (some 22) (v := ?v4) rfl rfl (by kernel_rfl) (by kernel_rfl) (by kernel_rfl) (Or.inl ⟨by rfl, ?hy4⟩) hHeld ?rest4
        case hy4 =>
          intro w' hSw
          clear hSw
          go_simp
          try (with_reducible rfl)
        try simp only [Act.put, List.setIfInBounds_toArray, List.set_cons_zero, List.set_cons_succ]
        refine wpAnyHN_take (i := 4) (oi := _) (some 23) (v := ?v5) rfl rfl (by kernel_rfl) (by kernel_rfl) (by kernel_rfl) (Or.inl ⟨by rfl, ?hy5⟩) hHeld ?rest5
        case hy5 =>
          intro w' hSw
          clear hSw
          go_simp
          try (with_reducible rfl)
        try simp only [Act.put, List.setIfInBounds_toArray, List.set_cons_zero, List.set_cons_succ]
        refine wpAnyHN_take (i := 5) (oi := _) (some 24) (v := ?v6) rfl rfl (by kernel_rfl) (by kernel_rfl) (by kernel_rfl) (Or.inl ⟨by rfl, ?hy6⟩) hHeld ?rest6
        case hy6 =>
          intro w' hSw
          clear hSw
          go_simp
          try (with_reducible rfl)
        try simp only [Act.put, List.setIfInBounds_toArray, List.set_cons_zero, List.set_cons_succ]
        refine wpAnyHN_take (i := 6) (oi := _) (some 25) (v := ?v7) rfl rfl (by kernel_rfl) (by kernel_rfl) (by kernel_rfl) (Or.inl ⟨by rfl, ?hy7⟩) hHeld ?rest7
        case hy7 =>
          intro w' hSw
          clear hSw
          go_simp
          try (with_reducible rfl)
        try simp only [Act.put, List.setIfInBounds_toArray, List.set_cons_zero, List.set_cons_succ]
        refine wpAnyHN_take (i := 7) (oi := _) (some 26) (v := ?v8) rfl rfl (by kernel_rfl) (by kernel_rfl) (by kernel_rfl) (Or.inl ⟨by rfl, ?hy8⟩) hHeld ?rest8
        case hy8 =>
          intro w' hSw
          clear hSw
          go_simp
          try (with_reducible rfl)
        try simp only [Act.put, List.setIfInBounds_toArray, List.set_cons_zero, List.set_cons_succ]
        refine wpAnyHN_take (i := 8) (oi := _) (some 27) (v := ?v9) rfl rfl (by kernel_rfl) (by kernel_rfl) (by kernel_rfl) (Or.inl ⟨by rfl, ?hy9⟩) hHeld ?rest9
        case hy9 =>
          intro w' hSw
          clear hSw
          go_simp
          try (with_reducible rfl)
        try simp only [Act.put, List.setIfInBounds_toArray, List.set_cons_zero, List.set_cons_succ]
        refine wpAnyHN_take (i := 9) (oi := _) (some 28) (v := ?v10) rfl rfl (by kernel_rfl) (by kernel_rfl) (by kernel_rfl) (Or.inl ⟨by rfl, ?hy10⟩) hHeld ?rest10
        case hy10 =>
          intro w' hSw
          clear hSw
          go_simp
          try (with_reducible rfl)
        try simp only [Act.put, List.setIfInBounds_toArray, List.set_cons_zero, List.set_cons_succ]
        refine wpAnyHN_take (i := 10) (oi := _) (some 29) (v := ?v11) rfl rfl (by kernel_rfl) (by kernel_rfl) (by kernel_rfl) (Or.inl ⟨by rfl, ?hy11⟩) hHeld ?rest11
        case hy11 =>
          intro w' hSw
          clear hSw
          go_simp
          try (with_reducible rfl)
        try simp only [Act.put, List.setIfInBounds_toArray, List.set_cons_zero, List.set_cons_succ]
        refine wpAnyHN_take (i := 11) (oi := _) (some 30) (v := ?v12) rfl rfl (by kernel_rfl) (by kernel_rfl) (by kernel_rfl) (Or.inl ⟨by rfl, ?hy12⟩) hHeld ?rest12
        case hy12 =>
          intro w' hSw
          clear hSw
          go_simp
          try (with_reducible rfl)
        try simp only [Act.put, List.setIfInBounds_toArray, List.set_cons_zero, List.set_cons_succ]
        refine wpAnyHN_take (i := 12) (oi := _) (some 31) (v := ?v13) rfl rfl (by kernel_rfl) (by kernel_rfl) (by kernel_rfl) (Or.inl ⟨by rfl, ?hy13⟩) hHeld ?rest13
        case hy13 =>
          intro w' hSw
          clear hSw
          go_simp
          try (with_reducible rfl)
        try simp only [Act.put, List.setIfInBounds_toArray, List.set_cons_zero, List.set_cons_succ]
        refine wpAnyHN_take (i := 13) (oi := _) (some 32) (v := ?v14) rfl rfl (by kernel_rfl) (by kernel_rfl) (by kernel_rfl) (Or.inl ⟨by rfl, ?hy14⟩) hHeld ?rest14
        case hy14 =>
          intro w' hSw
          clear hSw
          go_simp
          try (with_reducible rfl)
        try simp only [Act.put, List.setIfInBounds_toArray, List.set_cons_zero, List.set_cons_succ]
        refine wpAnyHN_take (i := 14) (oi := _) (some 33) (v := ?v15) rfl rfl (by kernel_rfl) (by kernel_rfl) (by kernel_rfl) (Or.inl ⟨by rfl, ?hy15⟩) hHeld ?rest15
        case hy15 =>
          intro w' hSw
          clear hSw
          go_simp
          try (with_reducible rfl)
        try simp only [Act.put, List.setIfInBounds_toArray, List.set_cons_zero, List.set_cons_succ]
        refine wpAnyHN_take (i := 15) (oi := _) (some 34) (v := ?v16) rfl rfl (by kernel_rfl) (by kernel_rfl) (by kernel_rfl) (Or.inl ⟨by rfl, ?hy16⟩) hHeld ?rest16
        case hy16 =>
          intro w' hSw
          clear hSw
          go_simp
          try (with_reducible rfl)
        try simp only [Act.put, List.setIfInBounds_toArray, List.set_cons_zero, List.set_cons_succ]
        refine wpAnyHN_take (i := 16) (oi := _) (some 35) (v := ?v17) rfl rfl (by kernel_rfl) (by kernel_rfl) (by kernel_rfl) (Or.inl ⟨by rfl, ?hy17⟩) hHeld ?rest17
        case hy17 =>
          intro w' hSw
          clear hSw
          go_simp
          try (with_reducible rfl)
        try simp only [Act.put, List.setIfInBounds_toArray, List.set_cons_zero, List.set_cons_succ]
        refine wpAnyHN_take (i := 17) (oi := _) (some 36) (v := ?v18) rfl rfl (by kernel_rfl) (by kernel_rfl) (by kernel_rfl) (Or.inl ⟨by rfl, ?hy18⟩) hHeld ?rest18
        case hy18 =>
          intro w' hSw
          clear hSw
          go_simp
          try (with_reducible rfl)
        try simp only [Act.put, List.setIfInBounds_toArray, List.set_cons_zero, List.set_cons_succ]
        refine wpAnyHN_take (i := 18) (oi := _) (some 37) (v := ?v19) rfl rfl (by kernel_rfl) (by kernel_rfl) (by kernel_rfl) (Or.inl ⟨by rfl, ?hy19⟩) hHeld ?rest19
        case hy19 =>
          intro w' hSw
          clear hSw
          go_simp
          try (with_reducible rfl)
        try simp only [Act.put, List.setIfInBounds_toArray, List.set_cons_zero, List.set_cons_succ]
        refine wpAnyHN_take (i := 19) (oi := _) (some 38) (v := ?v20) rfl rfl (by kernel_rfl) (by kernel_rfl) (by kernel_rfl) (Or.inl ⟨by rfl, ?hy20⟩) hHeld ?rest20
        case hy20 =>
          intro w' hSw
          clear hSw
          go_simp
          try (with_reducible rfl)
        try simp only [Act.put, List.setIfInBounds_toArray, List.set_cons_zero, List.set_cons_succ]
        refine wpAnyHN_take (i := 20) (oi := _) (some 39) (v := ?v21) rfl rfl (by kernel_rfl) (by kernel_rfl) (by kernel_rfl) (Or.inl ⟨by rfl, ?hy21⟩) hHeld ?rest21
        case hy21 =>
          intro w' hSw
          clear hSw
          go_simp
          try (with_reducible rfl)
        try simp only [Act.put, List.setIfInBounds_toArray, List.set_cons_zero, List.set_cons_succ]
        refine wpAnyHN_take (i := 21) (oi := _) (some 40) (v := ?v22) rfl rfl (by kernel_rfl) (by kernel_rfl) (by kernel_rfl) (Or.inl ⟨by rfl, ?hy22⟩) hHeld ?rest22
        case hy22 =>
          intro w' hSw
          clear hSw
          go_simp
          try (with_reducible rfl)
        try simp only [Act.put, List.setIfInBounds_toArray, List.set_cons_zero, List.set_cons_succ]
        refine wpAnyHN_take (i := 22) (oi := _) (some 41) (v := ?v23) rfl rfl (by kernel_rfl) (by kernel_rfl) (by kernel_rfl) (Or.inl ⟨by rfl, ?hy23⟩) hHeld ?rest23
        case hy23 =>
          intro w' hSw
          clear hSw
          go_simp
          try (with_reducible rfl)
        try simp only [Act.put, List.setIfInBounds_toArray, List.set_cons_zero, List.set_cons_succ]
        refine wpAnyHN_take (i := 23) (oi := _) (some 42) (v := ?v24) rfl rfl (by kernel_rfl) (by kernel_rfl) (by kernel_rfl) (Or.inl ⟨by rfl, ?hy24⟩) hHeld ?rest24
        case hy24 =>
          intro w' hSw
          clear hSw
          go_simp
          try (with_reducible rfl)
        try simp only [Act.put, List.setIfInBounds_toArray, List.set_cons_zero, List.set_cons_succ]
        refine wpAnyHN_take (i := 24) (oi := _) (some 43) (v := ?v25) rfl rfl (by kernel_rfl) (by kernel_rfl) (by kernel_rfl) (Or.inl ⟨by rfl, ?hy25⟩) hHeld ?rest25
        case hy25 =>
          intro w' hSw
          clear hSw
          go_simp
          try (with_reducible rfl)
        try simp only [Act.put, List.setIfInBounds_toArray, List.set_cons_zero, List.set_cons_succ]
        refine wpAnyH_ready (rs := [25, 29]) (by kernel_rfl) (by simp) ?_
        refine AllReadyH.cons (o := _) rfl (fun K' hK' => ?_) ?_
        · go_simp
          rw [or4 s p i0' j1 j2 j3]
          refine (take_ok _ _ (by exact (hT'.out.below hB'.out).below hHeld.out) r0 r1 HI.out).mono ?_
          rintro e x1 ⟨rfl, hb⟩
          have hq := keep_call hHeld hb
          have hsz : wr.heap.size ≤ x1.heap.size := hq.out.size
          obtain ⟨hcx, hfx⟩ := bcell hb
          clear hb
          go_simp
          refine hK'.out _ _ ?_ (fun hHeld => ?_)
          · repeat (first | (with_reducible exact hHeld) | (with_reducible exact hq) | (with_reducible exact keep_refl _) | (with_reducible refine keep_drew2 ?_) | (with_reducible refine keep_set ?_ (by have := hHeld.out.size; simp at this ⊢ <;> omega) _) | (with_reducible refine keep_alloc ?_ _))
          clear hK' K'
          try simp only [Act.put, List.setIfInBounds_toArray, List.set_cons_zero, List.set_cons_succ]
          refine wpAnyHN_take (i := 26) (oi := _) (some 18) (v := ?v26) rfl rfl (by kernel_rfl) (by kernel_rfl) (by kernel_rfl) (Or.inl ⟨by rfl, ?hy26⟩) hHeld ?rest26
          case hy26 =>
            intro w' hSw
            clear hSw
            go_simp
            try (with_reducible rfl)
          try simp only [Act.put, List.setIfInBounds_toArray, List.set_cons_zero, List.set_cons_succ]
          refine wpAnyHN_take (i := 27) (oi := _) (some 45) (v := ?v27) rfl rfl (by kernel_rfl) (by kernel_rfl) (by kernel_rfl) (Or.inl ⟨by rfl, ?hy27⟩) hHeld ?rest27
          case hy27 =>
            intro w' hSw
            clear hSw
            go_simp
            try (with_reducible rfl)
          try simp only [Act.put, List.setIfInBounds_toArray, List.set_cons_zero, List.set_cons_succ]
          refine wpAnyHN_take (i := 28) (oi := _) (some 46) (v := ?v28) rfl rfl (by kernel_rfl) (by kernel_rfl) (by kernel_rfl) (Or.inl ⟨by rfl, ?hy28⟩) hHeld ?rest28
          case hy28 =>
            intro w' hSw
            clear hSw
            go_simp
            try (with_reducible rfl)
          try simp only [Act.put, List.setIfInBounds_toArray, List.set_cons_zero, List.set_cons_succ]
          refine wpAnyH_ready (rs := [29]) (by kernel_rfl) (by simp) ?_
          refine AllReadyH.cons (o := _) rfl (fun K' hK' => ?_) AllReadyH.nil
          go_simp
          refine hK'.out _ _ ?_ (fun hHeld => ?_)
          · repeat (first | (with_reducible exact hHeld) | (with_reducible exact hq) | (with_reducible exact keep_refl _) | (with_reducible refine keep_drew2 ?_) | (with_reducible refine keep_set ?_ (by have := hHeld.out.size; simp at this ⊢ <;> omega) _) | (with_reducible refine keep_alloc ?_ _))
          clear hK' K'
          try simp only [Act.put, List.setIfInBounds_toArray, List.set_cons_zero, List.set_cons_succ]
          refine wpAnyH_ready (rs := [30]) (by kernel_rfl) (by simp) ?_
          refine AllReadyH.cons (o := _) rfl (fun K' hK' => ?_) AllReadyH.nil
          go_simp
          refine hK'.out _ _ ?_ (fun hHeld => ?_)
          · repeat (first | (with_reducible exact hHeld) | (with_reducible exact hq) | (with_reducible exact keep_refl _) | (with_reducible refine keep_drew2 ?_) | (with_reducible refine keep_set ?_ (by have := hHeld.out.size; simp at this ⊢ <;> omega) _) | (with_reducible refine keep_alloc ?_ _))
          clear hK' K'
          try simp only [Act.put, List.setIfInBounds_toArray, List.set_cons_zero, List.set_cons_succ]
          refine wpAnyHN_take (i := 31) (oi := _) (some 7) (v := ?v29) rfl rfl (by kernel_rfl) (by kernel_rfl) (by kernel_rfl) (Or.inl ⟨by rfl, ?hy29⟩) hHeld ?rest29
          case hy29 =>
            intro w' hSw
            clear hSw
            go_simp
            try (with_reducible rfl)
          try simp only [Act.put, List.setIfInBounds_toArray, List.set_cons_zero, List.set_cons_succ]
          refine wpAnyH_done (by kernel_rfl) ?_ _
          refine NoPanic.normal ?_
          have hP : BK w x1.heap.size (tOp (wordAt s.data.toList p)) (tA (wordAt s.data.toList p)) (tB (wordAt s.data.toList p)) (tI (wordAt s.data.toList p)) V k (cellsI (backL s.data.toList k)) (x1.alloc (.cells #[.int .i64 (tOp (wordAt s.data.toList p)), .int .i64 (tA (wordAt s.data.toList p)), .int .i64 (tB (wordAt s.data.toList p)), .int .i64 (tI (wordAt s.data.toList p))] 23)) := by
            refine ⟨?_, ?_, ?_, ?_, own_keep hO.out hHeld.out, hB'.out.trans (hHeld.out.mono hB'.out.size)⟩
            all_goals go_simp
          generalize (x1.alloc (.cells #[.int .i64 (tOp (wordAt s.data.toList p)), .int .i64 (tA (wordAt s.data.toList p)), .int .i64 (tB (wordAt s.data.toList p)), .int .i64 (tI (wordAt s.data.toList p))] 23)) = X at hP ⊢
          generalize x1.heap.size = hh at hP ⊢
          clear hHeld hq hcx hfx hO hB'
          obtain ⟨y0, y1, y2, y3, hO, hBX⟩ := hP
          have hO := hide hO
          have hBX := hide hBX
          have hyl : hh < X.heap.size := World.block_lt_of_cell? _ _ y0
          have hsX := hBX.out.size
          go_wp2_with (at_builtin; refine wpList_append_rd rfl (.tmp 50) (.tmp 52) 39 rfl w.heap.size 23 i0x _ 4 32 Tryd.underlying39 hi hz0 hz1 hz2 rfl (by omega) V k (cellsI (backL s.data.toList k)) rfl (hO.out.alloc _) (some ⟨X.heap.size, 0, none⟩) 1 1 [.int .i64 (tOp (wordAt s.data.toList p)), .int .i64 (tA (wordAt s.data.toList p)), .int .i64 (tB (wordAt s.data.toList p)), .int .i64 (tI (wordAt s.data.toList p))] rfl ?c1 (one_ins _ _ _ _) ?c2 ?c3 ?c4 ?_)
          case c1 => exact rdC_ins (by go_simp) (by go_simp) (by go_simp) (by go_simp)
          case c2 => unfold maxLen; omega
          case c3 => omega
          case c4 => simp; omega
          intro v' x2 hAp
          have hO2 := hide (show x2.ownsRow w.heap.size 23 4 v' (k + 1) (cellsI (backL s.data.toList (k + 1))) from by rw [backL_succ, cellsI_append, ← hpk.out]; exact hAp.own)
          have hB2 := hide (hAp.below (hO.out.alloc _) (hBX.out.alloc hBX.out.size _) (Nat.le_refl _) (by simp; omega))
          clear hAp hO hBX y0 y1 y2 y3
          go_wp2
          go_roundw
          case rel => exact ⟨p + 4, k + 1, _, rfl, by omega, hide (by have := hpk.out; omega), by go_num, hide (fun j hj => by
            rcases Nat.lt_or_ge j k with h | h
            · exact hW.out j h
            · have e : j = k := by omega
              rw [e, ← hpk.out]; exact HI.out), hO2, hB2⟩
          case measure => simp [intOf]; omega
        refine AllReadyH.cons (o := _) rfl (fun K' hK' => ?_) AllReadyH.nil
        go_simp
        refine hK'.out _ _ ?_ (fun hHeld => ?_)
        · repeat (first | (with_reducible exact hHeld) | (with_reducible exact hq) | (with_reducible exact keep_refl _) | (with_reducible refine keep_drew2 ?_) | (with_reducible refine keep_set ?_ (by have := hHeld.out.size; simp at this ⊢ <;> omega) _) | (with_reducible refine keep_alloc ?_ _))
        clear hK' K'
        try simp only [Act.put, List.setIfInBounds_toArray, List.set_cons_zero, List.set_cons_succ]
        refine wpAnyH_ready (rs := [25]) (by kernel_rfl) (by simp) ?_
        refine AllReadyH.cons (o := _) rfl (fun K' hK' => ?_) AllReadyH.nil
        go_simp
        rw [or4 s p i0' j1 j2 j3]
        refine (take_ok _ _ (by exact (hT'.out.below hB'.out).below hHeld.out) r0 r1 HI.out).mono ?_
        rintro e x1 ⟨rfl, hb⟩
        have hq := keep_call hHeld hb
        have hsz : wr.heap.size ≤ x1.heap.size := hq.out.size
        obtain ⟨hcx, hfx⟩ := bcell hb
        clear hb
        go_simp
        refine hK'.out _ _ ?_ (fun hHeld => ?_)
        · repeat (first | (with_reducible exact hHeld) | (with_reducible exact hq) | (with_reducible exact keep_refl _) | (with_reducible refine keep_drew2 ?_) | (with_reducible refine keep_set ?_ (by have := hHeld.out.size; simp at this ⊢ <;> omega) _) | (with_reducible refine keep_alloc ?_ _))
        clear hK' K'
        try simp only [Act.put, List.setIfInBounds_toArray, List.set_cons_zero, List.set_cons_succ]
        refine wpAnyHN_take (i := 26) (oi := _) (some 18) (v := ?v30) rfl rfl (by kernel_rfl) (by kernel_rfl) (by kernel_rfl) (Or.inl ⟨by rfl, ?hy30⟩) hHeld ?rest30
        case hy30 =>
          intro w' hSw
          clear hSw
          go_simp
          try (with_reducible rfl)
        try simp only [Act.put, List.setIfInBounds_toArray, List.set_cons_zero, List.set_cons_succ]
        refine wpAnyHN_take (i := 27) (oi := _) (some 45) (v := ?v31) rfl rfl (by kernel_rfl) (by kernel_rfl) (by kernel_rfl) (Or.inl ⟨by rfl, ?hy31⟩) hHeld ?rest31
        case hy31 =>
          intro w' hSw
          clear hSw
          go_simp
          try (with_reducible rfl)
        try simp only [Act.put, List.setIfInBounds_toArray, List.set_cons_zero, List.set_cons_succ]
        refine wpAnyHN_take (i := 28) (oi := _) (some 46) (v := ?v32) rfl rfl (by kernel_rfl) (by kernel_rfl) (by kernel_rfl) (Or.inl ⟨by rfl, ?hy32⟩) hHeld ?rest32
        case hy32 =>
          intro w' hSw
          clear hSw
          go_simp
          try (with_reducible rfl)
        try simp only [Act.put, List.setIfInBounds_toArray, List.set_cons_zero, List.set_cons_succ]
        refine wpAnyH_ready (rs := [30]) (by kernel_rfl) (by simp) ?_
        refine AllReadyH.cons (o := _) rfl (fun K' hK' => ?_) AllReadyH.nil
        go_simp
        refine hK'.out _ _ ?_ (fun hHeld => ?_)
        · repeat (first | (with_reducible exact hHeld) | (with_reducible exact hq) | (with_reducible exact keep_refl _) | (with_reducible refine keep_drew2 ?_) | (with_reducible refine keep_set ?_ (by have := hHeld.out.size; simp at this ⊢ <;> omega) _) | (with_reducible refine keep_alloc ?_ _))
        clear hK' K'
        try simp only [Act.put, List.setIfInBounds_toArray, List.set_cons_zero, List.set_cons_succ]
        refine wpAnyHN_take (i := 31) (oi := _) (some 7) (v := ?v33) rfl rfl (by kernel_rfl) (by kernel_rfl) (by kernel_rfl) (Or.inl ⟨by rfl, ?hy33⟩) hHeld ?rest33
        case hy33 =>
          intro w' hSw
          clear hSw
          go_simp
          try (with_reducible rfl)
        try simp only [Act.put, List.setIfInBounds_toArray, List.set_cons_zero, List.set_cons_succ]
        refine wpAnyH_done (by kernel_rfl) ?_ _
        refine NoPanic.normal ?_
        have z0' : x1.cell? ⟨wr.heap.size, 0, none⟩ = some (.int .i64 0) := (hcx _ _ (by simp)).trans (by go_simp)
        have z1' : x1.cell? ⟨wr.heap.size, 1, none⟩ = some (.int .i64 0) := (hcx _ _ (by simp)).trans (by go_simp)
        have z2' : x1.cell? ⟨wr.heap.size, 2, none⟩ = some (.int .i64 0) := (hcx _ _ (by simp)).trans (by go_simp)
        have z3' : x1.cell? ⟨wr.heap.size, 3, none⟩ = some (.int .i64 0) := (hcx _ _ (by simp)).trans (by go_simp)
        have hP : BK w wr.heap.size (tOp (wordAt s.data.toList p)) (tA (wordAt s.data.toList p)) (tB (wordAt s.data.toList p)) (tI (wordAt s.data.toList p)) V k (cellsI (backL s.data.toList k)) ((((x1.setCell ⟨wr.heap.size, 0, none⟩ (.int .i64 (tOp (wordAt s.data.toList p)))).setCell ⟨wr.heap.size, 1, none⟩ (.int .i64 (tA (wordAt s.data.toList p)))).setCell ⟨wr.heap.size, 2, none⟩ (.int .i64 (tB (wordAt s.data.toList p)))).setCell ⟨wr.heap.size, 3, none⟩ (.int .i64 (tI (wordAt s.data.toList p)))) := by
          refine ⟨?_, ?_, ?_, ?_, own_keep hO.out hHeld.out, hB'.out.trans (hHeld.out.mono hB'.out.size)⟩
          all_goals go_simp
        generalize ((((x1.setCell ⟨wr.heap.size, 0, none⟩ (.int .i64 (tOp (wordAt s.data.toList p)))).setCell ⟨wr.heap.size, 1, none⟩ (.int .i64 (tA (wordAt s.data.toList p)))).setCell ⟨wr.heap.size, 2, none⟩ (.int .i64 (tB (wordAt s.data.toList p)))).setCell ⟨wr.heap.size, 3, none⟩ (.int .i64 (tI (wordAt s.data.toList p)))) = X at hP ⊢
        generalize wr.heap.size = hh at hP ⊢
        clear hHeld hq hcx hfx hO hB'
        obtain ⟨y0, y1, y2, y3, hO, hBX⟩ := hP
        have hO := hide hO
        have hBX := hide hBX
        have hyl : hh < X.heap.size := World.block_lt_of_cell? _ _ y0
        have hsX := hBX.out.size
        go_wp2_with (at_builtin; refine wpList_append_rd rfl (.tmp 50) (.tmp 52) 39 rfl w.heap.size 23 i0x _ 4 32 Tryd.underlying39 hi hz0 hz1 hz2 rfl (by omega) V k (cellsI (backL s.data.toList k)) rfl (hO.out.alloc _) (some ⟨X.heap.size, 0, none⟩) 1 1 [.int .i64 (tOp (wordAt s.data.toList p)), .int .i64 (tA (wordAt s.data.toList p)), .int .i64 (tB (wordAt s.data.toList p)), .int .i64 (tI (wordAt s.data.toList p))] rfl ?c1 (one_ins _ _ _ _) ?c2 ?c3 ?c4 ?_)
        case c1 => exact rdC_ins (by go_simp) (by go_simp) (by go_simp) (by go_simp)
        case c2 => unfold maxLen; omega
        case c3 => omega
        case c4 => simp; omega
        intro v' x2 hAp
        have hO2 := hide (show x2.ownsRow w.heap.size 23 4 v' (k + 1) (cellsI (backL s.data.toList (k + 1))) from by rw [backL_succ, cellsI_append, ← hpk.out]; exact hAp.own)
        have hB2 := hide (hAp.below (hO.out.alloc _) (hBX.out.alloc hBX.out.size _) (Nat.le_refl _) (by simp; omega))
        clear hAp hO hBX y0 y1 y2 y3
        go_wp2
        go_roundw
        case rel => exact ⟨p + 4, k + 1, _, rfl, by omega, hide (by have := hpk.out; omega), by go_num, hide (fun j hj => by
          rcases Nat.lt_or_ge j k with h | h
          · exact hW.out j h
          · have e : j = k := by omega
            rw [e, ← hpk.out]; exact HI.out), hO2, hB2⟩
        case measure => simp [intOf]; omega
      · have HI := hide (show isW (wordAt s.data.toList p) = false by simpa using hI)
        clear hI
        have hNo := hide (show backE s = 11 from by
          unfold backE
          rw [if_pos H4.out, if_neg]
          intro hall
          have := allB_at hall (show k < s.size / 4 by have := hpk.out; omega)
          rw [← hpk.out, HI.out] at this
          cases this)
        have hNoR := hide (show cellsI (backR s) = [] from by
          unfold backR
          rw [if_neg (by rw [hNo.out]; decide)]
          rfl)
        refine wp_region_noPanic ?_
        refine wp_region_held_drew (S := fun w' => Hid (Below wr.heap.size wr w')) (by kernel_rfl) (keep_drew _) (fun hHeld => ?_)
        refine wpAnyHN_take (i := 0) (oi := _) (some 19) (v := ?v34) rfl rfl (by kernel_rfl) (by kernel_rfl) (by kernel_rfl) (Or.inl ⟨by rfl, ?hy34⟩) hHeld ?rest34
        case hy34 =>
          intro w' hSw
          clear hSw
          go_simp
          try (with_reducible rfl)
        try simp only [Act.put, List.setIfInBounds_toArray, List.set_cons_zero, List.set_cons_succ]
        refine wpAnyHN_take (i := 1) (oi := _) (some 20) (v := ?v35) rfl rfl (by kernel_rfl) (by kernel_rfl) (by kernel_rfl) (Or.inl ⟨by rfl, ?hy35⟩) hHeld ?rest35
        case hy35 =>
          intro w' hSw
          clear hSw
          go_simp
          try (with_reducible rfl)
        try simp only [Act.put, List.setIfInBounds_toArray, List.set_cons_zero, List.set_cons_succ]
        refine wpAnyHN_take (i := 2) (oi := _) (some 21) (v := ?v36) rfl rfl (by kernel_rfl) (by kernel_rfl) (by kernel_rfl) (Or.inl ⟨by rfl, ?hy36⟩) hHeld ?rest36
        case hy36 =>
          intro w' hSw
          clear hSw
          go_simp
          try (with_reducible rfl)
        try simp only [Act.put, List.setIfInBounds_toArray, List.set_cons_zero, List.set_cons_succ]
        refine wpAnyHN_take (i := 3) (oi := _) (some 22) (v := ?v37) rfl rfl (by kernel_rfl) (by kernel_rfl) (by kernel_rfl) (Or.inl ⟨by rfl, ?hy37⟩) hHeld ?rest37
        case hy37 =>
          intro w' hSw
          clear hSw
          go_simp
          try (with_reducible rfl)
        try simp only [Act.put, List.setIfInBounds_toArray, List.set_cons_zero, List.set_cons_succ]
        refine wpAnyHN_take (i := 4) (oi := _) (some 23) (v := ?v38) rfl rfl (by kernel_rfl) (by kernel_rfl) (by kernel_rfl) (Or.inl ⟨by rfl, ?hy38⟩) hHeld ?rest38
        case hy38 =>
          intro w' hSw
          clear hSw
          go_simp
          try (with_reducible rfl)
        try simp only [Act.put, List.setIfInBounds_toArray, List.set_cons_zero, List.set_cons_succ]
        refine wpAnyHN_take (i := 5) (oi := _) (some 24) (v := ?v39) rfl rfl (by kernel_rfl) (by kernel_rfl) (by kernel_rfl) (Or.inl ⟨by rfl, ?hy39⟩) hHeld ?rest39
        case hy39 =>
          intro w' hSw
          clear hSw
          go_simp
          try (with_reducible rfl)
        try simp only [Act.put, List.setIfInBounds_toArray, List.set_cons_zero, List.set_cons_succ]
        refine wpAnyHN_take (i := 6) (oi := _) (some 25) (v := ?v40) rfl rfl (by kernel_rfl) (by kernel_rfl) (by kernel_rfl) (Or.inl ⟨by rfl, ?hy40⟩) hHeld ?rest40
        case hy40 =>
          intro w' hSw
          clear hSw
          go_simp
          try (with_reducible rfl)
        try simp only [Act.put, List.setIfInBounds_toArray, List.set_cons_zero, List.set_cons_succ]
        refine wpAnyHN_take (i := 7) (oi := _) (some 26) (v := ?v41) rfl rfl (by kernel_rfl) (by kernel_rfl) (by kernel_rfl) (Or.inl ⟨by rfl, ?hy41⟩) hHeld ?rest41
        case hy41 =>
          intro w' hSw
          clear hSw
          go_simp
          try (with_reducible rfl)
        try simp only [Act.put, List.setIfInBounds_toArray, List.set_cons_zero, List.set_cons_succ]
        refine wpAnyHN_take (i := 8) (oi := _) (some 27) (v := ?v42) rfl rfl (by kernel_rfl) (by kernel_rfl) (by kernel_rfl) (Or.inl ⟨by rfl, ?hy42⟩) hHeld ?rest42
        case hy42 =>
          intro w' hSw
          clear hSw
          go_simp
          try (with_reducible rfl)
        try simp only [Act.put, List.setIfInBounds_toArray, List.set_cons_zero, List.set_cons_succ]
        refine wpAnyHN_take (i := 9) (oi := _) (some 28) (v := ?v43) rfl rfl (by kernel_rfl) (by kernel_rfl) (by kernel_rfl) (Or.inl ⟨by rfl, ?hy43⟩) hHeld ?rest43
        case hy43 =>
          intro w' hSw
          clear hSw
          go_simp
          try (with_reducible rfl)
        try simp only [Act.put, List.setIfInBounds_toArray, List.set_cons_zero, List.set_cons_succ]
        refine wpAnyHN_take (i := 10) (oi := _) (some 29) (v := ?v44) rfl rfl (by kernel_rfl) (by kernel_rfl) (by kernel_rfl) (Or.inl ⟨by rfl, ?hy44⟩) hHeld ?rest44
        case hy44 =>
          intro w' hSw
          clear hSw
          go_simp
          try (with_reducible rfl)
        try simp only [Act.put, List.setIfInBounds_toArray, List.set_cons_zero, List.set_cons_succ]
        refine wpAnyHN_take (i := 11) (oi := _) (some 30) (v := ?v45) rfl rfl (by kernel_rfl) (by kernel_rfl) (by kernel_rfl) (Or.inl ⟨by rfl, ?hy45⟩) hHeld ?rest45
        case hy45 =>
          intro w' hSw
          clear hSw
          go_simp
          try (with_reducible rfl)
        try simp only [Act.put, List.setIfInBounds_toArray, List.set_cons_zero, List.set_cons_succ]
        refine wpAnyHN_take (i := 12) (oi := _) (some 31) (v := ?v46) rfl rfl (by kernel_rfl) (by kernel_rfl) (by kernel_rfl) (Or.inl ⟨by rfl, ?hy46⟩) hHeld ?rest46
        case hy46 =>
          intro w' hSw
          clear hSw
          go_simp
          try (with_reducible rfl)
        try simp only [Act.put, List.setIfInBounds_toArray, List.set_cons_zero, List.set_cons_succ]
        refine wpAnyHN_take (i := 13) (oi := _) (some 32) (v := ?v47) rfl rfl (by kernel_rfl) (by kernel_rfl) (by kernel_rfl) (Or.inl ⟨by rfl, ?hy47⟩) hHeld ?rest47
        case hy47 =>
          intro w' hSw
          clear hSw
          go_simp
          try (with_reducible rfl)
        try simp only [Act.put, List.setIfInBounds_toArray, List.set_cons_zero, List.set_cons_succ]
        refine wpAnyHN_take (i := 14) (oi := _) (some 33) (v := ?v48) rfl rfl (by kernel_rfl) (by kernel_rfl) (by kernel_rfl) (Or.inl ⟨by rfl, ?hy48⟩) hHeld ?rest48
        case hy48 =>
          intro w' hSw
          clear hSw
          go_simp
          try (with_reducible rfl)
        try simp only [Act.put, List.setIfInBounds_toArray, List.set_cons_zero, List.set_cons_succ]
        refine wpAnyHN_take (i := 15) (oi := _) (some 34) (v := ?v49) rfl rfl (by kernel_rfl) (by kernel_rfl) (by kernel_rfl) (Or.inl ⟨by rfl, ?hy49⟩) hHeld ?rest49
        case hy49 =>
          intro w' hSw
          clear hSw
          go_simp
          try (with_reducible rfl)
        try simp only [Act.put, List.setIfInBounds_toArray, List.set_cons_zero, List.set_cons_succ]
        refine wpAnyHN_take (i := 16) (oi := _) (some 35) (v := ?v50) rfl rfl (by kernel_rfl) (by kernel_rfl) (by kernel_rfl) (Or.inl ⟨by rfl, ?hy50⟩) hHeld ?rest50
        case hy50 =>
          intro w' hSw
          clear hSw
          go_simp
          try (with_reducible rfl)
        try simp only [Act.put, List.setIfInBounds_toArray, List.set_cons_zero, List.set_cons_succ]
        refine wpAnyHN_take (i := 17) (oi := _) (some 36) (v := ?v51) rfl rfl (by kernel_rfl) (by kernel_rfl) (by kernel_rfl) (Or.inl ⟨by rfl, ?hy51⟩) hHeld ?rest51
        case hy51 =>
          intro w' hSw
          clear hSw
          go_simp
          try (with_reducible rfl)
        try simp only [Act.put, List.setIfInBounds_toArray, List.set_cons_zero, List.set_cons_succ]
        refine wpAnyHN_take (i := 18) (oi := _) (some 37) (v := ?v52) rfl rfl (by kernel_rfl) (by kernel_rfl) (by kernel_rfl) (Or.inl ⟨by rfl, ?hy52⟩) hHeld ?rest52
        case hy52 =>
          intro w' hSw
          clear hSw
          go_simp
          try (with_reducible rfl)
        try simp only [Act.put, List.setIfInBounds_toArray, List.set_cons_zero, List.set_cons_succ]
        refine wpAnyHN_take (i := 19) (oi := _) (some 38) (v := ?v53) rfl rfl (by kernel_rfl) (by kernel_rfl) (by kernel_rfl) (Or.inl ⟨by rfl, ?hy53⟩) hHeld ?rest53
        case hy53 =>
          intro w' hSw
          clear hSw
          go_simp
          try (with_reducible rfl)
        try simp only [Act.put, List.setIfInBounds_toArray, List.set_cons_zero, List.set_cons_succ]
        refine wpAnyHN_take (i := 20) (oi := _) (some 39) (v := ?v54) rfl rfl (by kernel_rfl) (by kernel_rfl) (by kernel_rfl) (Or.inl ⟨by rfl, ?hy54⟩) hHeld ?rest54
        case hy54 =>
          intro w' hSw
          clear hSw
          go_simp
          try (with_reducible rfl)
        try simp only [Act.put, List.setIfInBounds_toArray, List.set_cons_zero, List.set_cons_succ]
        refine wpAnyHN_take (i := 21) (oi := _) (some 40) (v := ?v55) rfl rfl (by kernel_rfl) (by kernel_rfl) (by kernel_rfl) (Or.inl ⟨by rfl, ?hy55⟩) hHeld ?rest55
        case hy55 =>
          intro w' hSw
          clear hSw
          go_simp
          try (with_reducible rfl)
        try simp only [Act.put, List.setIfInBounds_toArray, List.set_cons_zero, List.set_cons_succ]
        refine wpAnyHN_take (i := 22) (oi := _) (some 41) (v := ?v56) rfl rfl (by kernel_rfl) (by kernel_rfl) (by kernel_rfl) (Or.inl ⟨by rfl, ?hy56⟩) hHeld ?rest56
        case hy56 =>
          intro w' hSw
          clear hSw
          go_simp
          try (with_reducible rfl)
        try simp only [Act.put, List.setIfInBounds_toArray, List.set_cons_zero, List.set_cons_succ]
        refine wpAnyHN_take (i := 23) (oi := _) (some 42) (v := ?v57) rfl rfl (by kernel_rfl) (by kernel_rfl) (by kernel_rfl) (Or.inl ⟨by rfl, ?hy57⟩) hHeld ?rest57
        case hy57 =>
          intro w' hSw
          clear hSw
          go_simp
          try (with_reducible rfl)
        try simp only [Act.put, List.setIfInBounds_toArray, List.set_cons_zero, List.set_cons_succ]
        refine wpAnyHN_take (i := 24) (oi := _) (some 43) (v := ?v58) rfl rfl (by kernel_rfl) (by kernel_rfl) (by kernel_rfl) (Or.inl ⟨by rfl, ?hy58⟩) hHeld ?rest58
        case hy58 =>
          intro w' hSw
          clear hSw
          go_simp
          try (with_reducible rfl)
        try simp only [Act.put, List.setIfInBounds_toArray, List.set_cons_zero, List.set_cons_succ]
        refine wpAnyH_ready (rs := [25, 29]) (by kernel_rfl) (by simp) ?_
        refine AllReadyH.cons (o := _) rfl (fun K' hK' => ?_) ?_
        · go_simp
          rw [or4 s p i0' j1 j2 j3]
          refine (take_no _ _ (by exact (hT'.out.below hB'.out).below hHeld.out) r0 r1 HI.out).mono ?_
          rintro e x1 ⟨rfl, hb⟩
          have hq := keep_call hHeld hb
          have hsz : wr.heap.size ≤ x1.heap.size := hq.out.size
          obtain ⟨hcx, hfx⟩ := bcell hb
          clear hb
          go_simp
          refine hK'.out _ _ ?_ (fun hHeld => ?_)
          · repeat (first | (with_reducible exact hHeld) | (with_reducible exact hq) | (with_reducible exact keep_refl _) | (with_reducible refine keep_drew2 ?_) | (with_reducible refine keep_set ?_ (by have := hHeld.out.size; simp at this ⊢ <;> omega) _) | (with_reducible refine keep_alloc ?_ _))
          clear hK' K'
          try simp only [Act.put, List.setIfInBounds_toArray, List.set_cons_zero, List.set_cons_succ]
          refine wpAnyHN_take (i := 26) (oi := _) (some 18) (v := ?v59) rfl rfl (by kernel_rfl) (by kernel_rfl) (by kernel_rfl) (Or.inl ⟨by rfl, ?hy59⟩) hHeld ?rest59
          case hy59 =>
            intro w' hSw
            clear hSw
            go_simp
            try (with_reducible rfl)
          try simp only [Act.put, List.setIfInBounds_toArray, List.set_cons_zero, List.set_cons_succ]
          refine wpAnyHN_take (i := 27) (oi := _) (some 45) (v := ?v60) rfl rfl (by kernel_rfl) (by kernel_rfl) (by kernel_rfl) (Or.inl ⟨by rfl, ?hy60⟩) hHeld ?rest60
          case hy60 =>
            intro w' hSw
            clear hSw
            go_simp
            try (with_reducible rfl)
          try simp only [Act.put, List.setIfInBounds_toArray, List.set_cons_zero, List.set_cons_succ]
          refine wpAnyHN_take (i := 28) (oi := _) (some 46) (v := ?v61) rfl rfl (by kernel_rfl) (by kernel_rfl) (by kernel_rfl) (Or.inl ⟨by rfl, ?hy61⟩) hHeld ?rest61
          case hy61 =>
            intro w' hSw
            clear hSw
            go_simp
            try (with_reducible rfl)
          try simp only [Act.put, List.setIfInBounds_toArray, List.set_cons_zero, List.set_cons_succ]
          refine wpAnyH_ready (rs := [29]) (by kernel_rfl) (by simp) ?_
          refine AllReadyH.cons (o := _) rfl (fun K' hK' => ?_) AllReadyH.nil
          go_simp
          refine hK'.out _ _ ?_ (fun hHeld => ?_)
          · repeat (first | (with_reducible exact hHeld) | (with_reducible exact hq) | (with_reducible exact keep_refl _) | (with_reducible refine keep_drew2 ?_) | (with_reducible refine keep_set ?_ (by have := hHeld.out.size; simp at this ⊢ <;> omega) _) | (with_reducible refine keep_alloc ?_ _))
          clear hK' K'
          try simp only [Act.put, List.setIfInBounds_toArray, List.set_cons_zero, List.set_cons_succ]
          refine wpAnyH_ready (rs := [30]) (by kernel_rfl) (by simp) ?_
          refine AllReadyH.cons (o := _) rfl (fun K' hK' => ?_) AllReadyH.nil
          go_simp
          refine hK'.out _ _ ?_ (fun hHeld => ?_)
          · repeat (first | (with_reducible exact hHeld) | (with_reducible exact hq) | (with_reducible exact keep_refl _) | (with_reducible refine keep_drew2 ?_) | (with_reducible refine keep_set ?_ (by have := hHeld.out.size; simp at this ⊢ <;> omega) _) | (with_reducible refine keep_alloc ?_ _))
          clear hK' K'
          try simp only [Act.put, List.setIfInBounds_toArray, List.set_cons_zero, List.set_cons_succ]
          refine wpAnyHN_take (i := 31) (oi := _) (some 7) (v := ?v62) rfl rfl (by kernel_rfl) (by kernel_rfl) (by kernel_rfl) (Or.inl ⟨by rfl, ?hy62⟩) hHeld ?rest62
          case hy62 =>
            intro w' hSw
            clear hSw
            go_simp
            try (with_reducible rfl)
          try simp only [Act.put, List.setIfInBounds_toArray, List.set_cons_zero, List.set_cons_succ]
          refine wpAnyH_done (by kernel_rfl) ?_ _
          refine NoPanic.normal ?_
          have hBe := hB'.out.trans (hHeld.out.mono hB'.out.size)
          clear hHeld hq hcx hfx
          go_wp2
          refine bodyPost_ret (v := .tuple #[.slice none 0 0, .int .i64 11]) (by simp [results, Tryd.results18, go_sem]) rfl ?_
          refine ⟨none, 0, 0, by rw [hNo.out], ?_, hBe⟩
          rw [hNoR.out]
          exact RdC.nil _ _
        refine AllReadyH.cons (o := _) rfl (fun K' hK' => ?_) AllReadyH.nil
        go_simp
        refine hK'.out _ _ ?_ (fun hHeld => ?_)
        · repeat (first | (with_reducible exact hHeld) | (with_reducible exact hq) | (with_reducible exact keep_refl _) | (with_reducible refine keep_drew2 ?_) | (with_reducible refine keep_set ?_ (by have := hHeld.out.size; simp at this ⊢ <;> omega) _) | (with_reducible refine keep_alloc ?_ _))
        clear hK' K'
        try simp only [Act.put, List.setIfInBounds_toArray, List.set_cons_zero, List.set_cons_succ]
        refine wpAnyH_ready (rs := [25]) (by kernel_rfl) (by simp) ?_
        refine AllReadyH.cons (o := _) rfl (fun K' hK' => ?_) AllReadyH.nil
        go_simp
        rw [or4 s p i0' j1 j2 j3]
        refine (take_no _ _ (by exact (hT'.out.below hB'.out).below hHeld.out) r0 r1 HI.out).mono ?_
        rintro e x1 ⟨rfl, hb⟩
        have hq := keep_call hHeld hb
        have hsz : wr.heap.size ≤ x1.heap.size := hq.out.size
        obtain ⟨hcx, hfx⟩ := bcell hb
        clear hb
        go_simp
        refine hK'.out _ _ ?_ (fun hHeld => ?_)
        · repeat (first | (with_reducible exact hHeld) | (with_reducible exact hq) | (with_reducible exact keep_refl _) | (with_reducible refine keep_drew2 ?_) | (with_reducible refine keep_set ?_ (by have := hHeld.out.size; simp at this ⊢ <;> omega) _) | (with_reducible refine keep_alloc ?_ _))
        clear hK' K'
        try simp only [Act.put, List.setIfInBounds_toArray, List.set_cons_zero, List.set_cons_succ]
        refine wpAnyHN_take (i := 26) (oi := _) (some 18) (v := ?v63) rfl rfl (by kernel_rfl) (by kernel_rfl) (by kernel_rfl) (Or.inl ⟨by rfl, ?hy63⟩) hHeld ?rest63
        case hy63 =>
          intro w' hSw
          clear hSw
          go_simp
          try (with_reducible rfl)
        try simp only [Act.put, List.setIfInBounds_toArray, List.set_cons_zero, List.set_cons_succ]
        refine wpAnyHN_take (i := 27) (oi := _) (some 45) (v := ?v64) rfl rfl (by kernel_rfl) (by kernel_rfl) (by kernel_rfl) (Or.inl ⟨by rfl, ?hy64⟩) hHeld ?rest64
        case hy64 =>
          intro w' hSw
          clear hSw
          go_simp
          try (with_reducible rfl)
        try simp only [Act.put, List.setIfInBounds_toArray, List.set_cons_zero, List.set_cons_succ]
        refine wpAnyHN_take (i := 28) (oi := _) (some 46) (v := ?v65) rfl rfl (by kernel_rfl) (by kernel_rfl) (by kernel_rfl) (Or.inl ⟨by rfl, ?hy65⟩) hHeld ?rest65
        case hy65 =>
          intro w' hSw
          clear hSw
          go_simp
          try (with_reducible rfl)
        try simp only [Act.put, List.setIfInBounds_toArray, List.set_cons_zero, List.set_cons_succ]
        refine wpAnyH_ready (rs := [30]) (by kernel_rfl) (by simp) ?_
        refine AllReadyH.cons (o := _) rfl (fun K' hK' => ?_) AllReadyH.nil
        go_simp
        refine hK'.out _ _ ?_ (fun hHeld => ?_)
        · repeat (first | (with_reducible exact hHeld) | (with_reducible exact hq) | (with_reducible exact keep_refl _) | (with_reducible refine keep_drew2 ?_) | (with_reducible refine keep_set ?_ (by have := hHeld.out.size; simp at this ⊢ <;> omega) _) | (with_reducible refine keep_alloc ?_ _))
        clear hK' K'
        try simp only [Act.put, List.setIfInBounds_toArray, List.set_cons_zero, List.set_cons_succ]
        refine wpAnyHN_take (i := 31) (oi := _) (some 7) (v := ?v66) rfl rfl (by kernel_rfl) (by kernel_rfl) (by kernel_rfl) (Or.inl ⟨by rfl, ?hy66⟩) hHeld ?rest66
        case hy66 =>
          intro w' hSw
          clear hSw
          go_simp
          try (with_reducible rfl)
        try simp only [Act.put, List.setIfInBounds_toArray, List.set_cons_zero, List.set_cons_succ]
        refine wpAnyH_done (by kernel_rfl) ?_ _
        refine NoPanic.normal ?_
        have hBe := hB'.out.trans (hHeld.out.mono hB'.out.size)
        clear hHeld hq hcx hfx
        go_wp2
        refine bodyPost_ret (v := .tuple #[.slice none 0 0, .int .i64 11]) (by simp [results, Tryd.results18, go_sem]) rfl ?_
        refine ⟨none, 0, 0, by rw [hNo.out], ?_, hBe⟩
        rw [hNoR.out]
        exact RdC.nil _ _
    · have hk4 : k = s.size / 4 := by have := hpk.out; have := H4.out; omega
      have hYes := hide (show backE s = 0 from by
        unfold backE
        rw [if_pos H4.out, if_pos]
        rw [← hk4]
        exact allB_of hW.out)
      have hYesR := hide (show cellsI (backR s) = cellsI (backL s.data.toList k) from by
        unfold backR
        rw [if_pos hYes.out, hk4])
      obtain ⟨A, c, rfl, -⟩ := own_slice hO.out
      have hK4 := hide hk4
      clear hk4
      go_wp2
      refine bodyPost_ret (v := .tuple #[.slice A k c, .int .i64 0]) (by simp [results, Tryd.results18, go_sem]) rfl ?_
      refine ⟨A, k, c, by rw [hYes.out], ?_, hB'.out⟩
      rw [hYesR.out]
      exact RdC.of_own hO.out

theorem back_any (s : ByteArray) (w : World) (hT : Tab w) (hs : s.size ≤ 4194304) :
    Calls Tryd.prog 18 #[.string s] w fun e w' => ∃ A n c, e = .returned (.tuple #[.slice A n c, .int .i64 (backE s)]) ∧ RdC w' 4 A n c (cellsI (backR s)) ∧ Below w.heap.size w w' := by
  by_cases h : s.size % 4 = 0
  · exact back_loop s w hT hs h
  · refine (back_more s w hs h).mono ?_
    rintro e w' ⟨rfl, hb⟩
    have e2 : backE s = 2 := by unfold backE; rw [if_neg h]
    refine ⟨none, 0, 0, by rw [e2], ?_, hb⟩
    have : cellsI (backR s) = [] := by unfold backR; rw [if_neg (by rw [e2]; decide)]; rfl
    rw [this]
    exact RdC.nil _ _

end Go.Proofs.YtjiamhoabbjkmaaDoor.Isa
