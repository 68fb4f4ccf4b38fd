/-
  IsaApart: of two instructions that may be, and are not the same, the words are not. Conditions: the table isa.uses as the program lays it (tied).
-/
import Derived.Test.YtjiamhoabbjkmaaDoorIsaLaid
namespace Go.Proofs.YtjiamhoabbjkmaaDoor.Isa
open Go.ChangeShapes Go.WideShapes Go.ChangeAt Go.RowKit Go.Joins

set_option maxHeartbeats 400000 in
theorem shown_any (w : World) (hT : Tab w) : Calls Tryd.prog 11 #[] w fun e w' => e = .returned (.bool true) ∧ Below w.heap.size w w' := by
  have hT' := Lib.hid hT
  clear hT
  go_enter Tryd.func11, Tryd.ntmps11
  go_wp2_with fail
  refine (word_ok 1 1 0 (-1) _ hT'.out (by decide)).mono ?_
  rintro e w1 ⟨rfl, hb⟩
  rw [show wordN 1 1 0 (-1) = 17891327 by decide]
  go_wp2
  go_ret
  exact ⟨rfl, hb⟩

set_option maxHeartbeats 400000 in
theorem apart_walk (op a b imm op' a' b' imm' : Int) (w : World) (hT : Tab w) :
    Calls Tryd.prog 3 #[.agg #[.int .i64 op, .int .i64 a, .int .i64 b, .int .i64 imm], .agg #[.int .i64 op', .int .i64 a', .int .i64 b', .int .i64 imm']] w fun e w' => e = .returned (.bool true) ∧ Below w.heap.size w w' := by
  have hT' := Lib.hid hT
  clear hT
  go_enter Tryd.func3, Tryd.ntmps3
  go_wp2_with fail
  refine (shown_any _ (by exact hT'.out.below ((below_new _ _).alloc (by simp) _))).mono ?_
  rintro e w1 ⟨rfl, hb1⟩
  obtain ⟨hc1, hf1⟩ := bcell hb1
  have hB1 := hide (below_call2 hb1)
  have hs1 := hb1.size
  simp only [World.size_alloc] at hs1
  have s10 : w.heap.size < w1.heap.size := by omega
  have s11 : w.heap.size + 1 < w1.heap.size := by omega
  have hb1' := hide hb1
  clear hb1
  by_cases hA : mayB op a b imm = true
  · go_wp2_with fail
    refine (word_ok op a b imm _ (by exact hT'.out.below hB1.out) hA).mono ?_
    rintro e w2 ⟨rfl, hb2⟩
    obtain ⟨hc2, hf2⟩ := bcell hb2
    have hB2 := hide (hB1.out.trans (hb2.mono (Nat.le_of_lt s10)))
    by_cases hA' : mayB op' a' b' imm' = true
    · go_wp2_with fail
      refine (word_ok op' a' b' imm' _ (by exact hT'.out.below hB2.out) hA').mono ?_
      rintro e w3 ⟨rfl, hb3⟩
      obtain ⟨hc3, hf3⟩ := bcell hb3
      have hs2 := hb2.size
      have s20 : w.heap.size < w2.heap.size := by omega
      have s21 : w.heap.size + 1 < w2.heap.size := by omega
      have hB3 := hide (hB2.out.trans (hb3.mono (Nat.le_of_lt s20)))
      by_cases heq : op = op' ∧ a = a' ∧ b = b' ∧ imm = imm'
      · obtain ⟨rfl, rfl, rfl, rfl⟩ := heq
        go_wp2
        go_ret
        exact ⟨rfl, hB3.out⟩
      · have hne : (wordN op a b imm == wordN op' a' b' imm') = false := by
          rw [beq_eq_false_iff_ne]
          intro h
          exact heq (word_inj (mayB_in hA) (mayB_in hA') h)
        have hQ := hide heq
        clear heq
        go_wp2
        all_goals first
          | exact absurd ⟨by assumption, by assumption, by assumption, by assumption⟩ hQ.out
          | (go_ret; exact ⟨rfl, hB3.out⟩)
    · have hA2 : mayB op' a' b' imm' = false := by simpa using hA'
      go_wp2_with fail
      refine (word_no op' a' b' imm' _ (by exact hT'.out.below hB2.out) hA2).mono ?_
      rintro e w3 ⟨rfl, hb3⟩
      have hs2 := hb2.size
      have hB3 := hide (hB2.out.trans (hb3.mono (by omega)))
      go_wp2
      go_ret
      exact ⟨rfl, hB3.out⟩
  · have hA1 : mayB op a b imm = false := by simpa using hA
    go_wp2_with fail
    refine (word_no op a b imm _ (by exact hT'.out.below hB1.out) hA1).mono ?_
    rintro e w2 ⟨rfl, hb2⟩
    obtain ⟨hc2, hf2⟩ := bcell hb2
    have hB2 := hide (hB1.out.trans (hb2.mono (Nat.le_of_lt s10)))
    have hs2 := hb2.size
    have s20 : w.heap.size < w2.heap.size := by omega
    have s21 : w.heap.size + 1 < w2.heap.size := by omega
    by_cases hA' : mayB op' a' b' imm' = true
    · go_wp2_with fail
      refine (word_ok op' a' b' imm' _ (by exact hT'.out.below hB2.out) hA').mono ?_
      rintro e w3 ⟨rfl, hb3⟩
      have hB3 := hide (hB2.out.trans (hb3.mono (by omega)))
      go_wp2
      go_ret
      exact ⟨rfl, hB3.out⟩
    · have hA2 : mayB op' a' b' imm' = false := by simpa using hA'
      go_wp2_with fail
      refine (word_no op' a' b' imm' _ (by exact hT'.out.below hB2.out) hA2).mono ?_
      rintro e w3 ⟨rfl, hb3⟩
      have hB3 := hide (hB2.out.trans (hb3.mono (by omega)))
      go_wp2
      go_ret
      exact ⟨rfl, hB3.out⟩

theorem apart_contract (H : Type) (enc : TypeId × Value → H) (W : World) (base : Nat) (args : Array Value) (ds gs : List (DataW H)) (before : List MemPlace)
    (hval : ∀ (j : Nat) t v, Tryd.f3.params[j]? = some t → args[j]? = some v → Value.okWide Tryd.prog W .any base t v)
    (hW : DataW.Whole enc Tryd.prog Tryd.f3.params.toList Rows.isaApartSpec.vars false W args.toList ds gs before) (hL : laidMetH Tryd.prog Rows.isaApartRow.laid W) :
    Calls Tryd.prog 3 args W fun e W' => ∃ v, e = .returned v ∧ Rows.isaApartSpec.post enc Tryd.prog Tryd.f3 false true false false W args v W' := by
  have hW' := hW
  obtain ⟨p, q, hA0, hV, rfl, hfz, hnd⟩ := hW
  have hA : DataW.TrodAll enc Tryd.prog W 0 (fun _ => true) true Tryd.f3.params.toList args.toList ds p := hA0
  rw [Tryd.params3] at hA hval
  obtain ⟨v0, v1, d0, d1, p0, p1, rfl, rfl, rfl, h0, h1⟩ := trodAll_two hA
  obtain ⟨rfl, rfl⟩ := trodVars_none hV
  obtain ⟨op, a, b, imm, rfl, rfl, rfl⟩ := open_ins (hval 0 23 v0 rfl rfl) h0
  obtain ⟨op', a', b', imm', rfl, rfl, rfl⟩ := open_ins (hval 1 23 v1 rfl rfl) h1
  have hT : Tab W := tab_of (Lib.tabIs_of_head (rest := []) gUses gUsesType Tryd.underlying54 Tryd.underlying3 cellsInt cellsUses hL)
  refine (apart_walk op a b imm op' a' b' imm' W hT).mono fun e W' ⟨he, hb⟩ => ?_
  subst he
  exact ⟨_, rfl, law_post laidOut (by kernel_rfl) Tryd.underlying4 (by kernel_rfl) rfl hW' rfl hb⟩

theorem apart_met (os : Os) : laidMet Tryd.prog Rows.isaApartRow.laid ((laidWorld os).forCall (fun _ _ => 0) ⟨#[], #[.agg #[.int .i64 0, .int .i64 0, .int .i64 0, .int .i64 0], .agg #[.int .i64 0, .int .i64 0, .int .i64 0, .int .i64 0]], []⟩).memory :=
  laidMet_of_run' 8 (by kernel_rfl) (by kernel_rfl)
theorem apart_reads (os : Os) {H : Type} (enc : TypeId × Value → H) : ∃ places, DataW.whole enc Tryd.prog ((laidWorld os).forCall (fun _ _ => 0) ⟨#[], #[.agg #[.int .i64 0, .int .i64 0, .int .i64 0, .int .i64 0], .agg #[.int .i64 0, .int .i64 0, .int .i64 0, .int .i64 0]], []⟩).memory Tryd.f3.params.toList Rows.isaApartSpec.vars false (#[.agg #[.int .i64 0, .int .i64 0, .int .i64 0, .int .i64 0], .agg #[.int .i64 0, .int .i64 0, .int .i64 0, .int .i64 0]] : Array Value).toList 8 = some ([.agg [.lit (.int .i64 0), .lit (.int .i64 0), .lit (.int .i64 0), .lit (.int .i64 0)], .agg [.lit (.int .i64 0), .lit (.int .i64 0), .lit (.int .i64 0), .lit (.int .i64 0)]], [], places) :=
  ⟨[], by kernel_rfl⟩

set_option maxRecDepth 100000 in
theorem apart_lifted (os : Os) (started : os.Started) (H : Type) (enc : TypeId × Value → H) (F : Stop.Interp) :
    ReturnsInHanded {} Tryd.checked os 3 .any ((OpenSpec.ofChange Rows.isaApartSpec).preRow enc Tryd.prog Tryd.f3 Rows.isaApartRow.domain false Rows.isaApartRow.laid) (((OpenSpec.ofChange Rows.isaApartSpec).at F).post enc Tryd.prog Tryd.f3 false true false false) := by
  obtain ⟨places, hx⟩ := apart_reads os enc
  refine returnsInHanded_of_row (C := Tryd.checked) (s := OpenSpec.ofChange Rows.isaApartSpec) own started (by kernel_rfl) Tryd.func3
    (witness_row_at (enc := enc) (C := Tryd.checked) false (laidWorld os) #[.agg #[.int .i64 0, .int .i64 0, .int .i64 0, .int .i64 0], .agg #[.int .i64 0, .int .i64 0, .int .i64 0, .int .i64 0]] rfl (by kernel_rfl) (by kernel_rfl) (by kernel_rfl)
      (OpenSpec.preRow_of_cond 8 hx (by kernel_rfl) (fun k hk => by cases hk) (by kernel_rfl) (apart_met os))) ?_
  intro W base args ds gs before hval hW _ _ _ hL _ _
  exact apart_contract H enc W base args ds gs before hval hW hL

theorem apart_said : Rows.IsaApartSaid :=
  OpenClaim.holds_of_cond 3 Tryd.f3 rfl rfl rfl rfl rfl rfl rfl ⟨rfl, rfl, rfl, rfl, rfl⟩ rfl rfl rfl rfl rfl (by kernel_rfl) Tryd.func3 (by kernel_rfl)
    (of_decide_eq_true (by kernel_rfl)) (by unfold Func.isWrapper; first | (rw [if_pos (by decide +kernel)]; kernel_rfl) | (rw [if_neg (by decide +kernel)]; exact ⟨rfl, rfl⟩))
    (fun os started H enc _ F => by rw [OpenClaim.pre_eq_preRow]; exact apart_lifted os started H enc F)

theorem apart_plain (f : FuncId) (fn : Func) (hf : Tryd.pinned.checked.prog.funcNamed "transom/transomlaw01.IsaApart" = some f) (hfn : Tryd.pinned.checked.prog.funcs[f]? = some fn) :
    false = Tryd.pinned.checked.prog.looks [] ∧ ∀ (j : Nat) t, fn.params[j]? = some t → Tryd.pinned.checked.prog.wantsStandIn t = false := by
  obtain rfl : f = 3 := Option.some.inj ((show Tryd.prog.funcNamed "transom/transomlaw01.IsaApart" = some 3 by kernel_rfl).symm.trans hf) |>.symm
  obtain rfl : fn = Tryd.f3 := (Option.some.inj (Tryd.func3.symm.trans hfn)).symm
  refine ⟨by kernel_rfl, fun j t ht => ?_⟩
  rw [Tryd.params3] at ht
  have hm : t ∈ [23, 23] := by simpa using Array.mem_of_getElem? ht
  have hall : ([23, 23].all fun u => !Tryd.prog.wantsStandIn u) = true := by kernel_rfl
  exact (show Tryd.prog.wantsStandIn t = false by simpa using List.all_eq_true.1 hall t hm)

theorem apart_holds : Rows.IsaApartCardSaid :=
  Claim7.holds_tied_plain_at .later [] _ _ _ _ apart_said (fun _ h => by cases h) (by kernel_rfl) (fun _ h => by cases h) isaApart_row_tie rfl ⟨rfl, rfl⟩ (by kernel_rfl) rfl apart_plain (by kernel_rfl)

end Go.Proofs.YtjiamhoabbjkmaaDoor.Isa
