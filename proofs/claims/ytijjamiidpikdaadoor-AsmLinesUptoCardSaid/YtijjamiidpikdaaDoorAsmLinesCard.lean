/-
  AsmLines: an instruction's line, the instruction of a line, and the number of a text, are as the document says. Conditions: the listed variables as the program lays them (tied); what is read is of bulk at most 1048576.
-/
import Derived.Test.YtijjamiidpikdaaDoorAsmInsArg
import Derived.Test.YtijjamiidpikdaaDoorAsmLines
namespace Go.Proofs.YtijjamiidpikdaaDoor.Asm
open Go.ChangeShapes Go.WideShapes Go.ChangeAt Go.RowKit Go.Joins Go.ChangeMaps Go.Proofs.YtijjamiidpikdaaDoor.Isa

theorem lines_contract (H : Type) (enc : TypeId × Value → H) (W : World) (base : Nat) (args : Array Value) (ds gs : List (DataW H)) (before : List MemPlace)
    (hval : ∀ (j : Nat) t v, Tryd.f4.params[j]? = some t → args[j]? = some v → Value.okWide Tryd.prog W .any base t v)
    (hW : DataW.Whole enc Tryd.prog Tryd.f4.params.toList Rows.asmLinesSpec.vars false W args.toList ds gs before) (hL : laidMetH Tryd.prog Rows.asmLinesUptoRow.laid W) (hc : Rows.uptoSmall H (ds ++ gs) = true) :
    Calls Tryd.prog 4 args W fun e W' => ∃ v, e = .returned v ∧ Rows.asmLinesSpec.post enc Tryd.prog Tryd.f4 false true false false W args v W' := by
  have hW' := hW
  obtain ⟨p, q, hA0, hV, rfl, hfz, hnd⟩ := hW
  have hA : DataW.TrodAll enc Tryd.prog W 0 (fun _ => true) true Tryd.f4.params.toList args.toList ds p := hA0
  rw [Tryd.params4] at hA hval
  obtain ⟨v0, v1, d0, d1, p0, p1, rfl, rfl, rfl, h0, h1⟩ := trodAll_two hA
  obtain ⟨rfl, rfl⟩ := trodVars_none hV
  obtain ⟨op0, a0, b0, i0, rfl, rfl, rfl⟩ := open_ins (hval 0 27 v0 rfl rfl) h0
  obtain ⟨s1, rfl, rfl, rfl, hm1⟩ := open_string Tryd.underlying9 (hval 1 9 v1 rfl rfl) h1
  obtain ⟨l1, rfl⟩ : ∃ l : List UInt8, s1 = ⟨l.toArray⟩ := ⟨s1.data.toList, by apply ByteArray.ext; simp⟩
  have hm1 : l1.length ≤ maxLen := hm1
  have hq := bulk_two hc
  repeat rw [bulk_bytes] at hq
  have hT : Tabs W := by
    obtain ⟨ps, hps, _⟩ := hL
    exact tabs_of5 hps
  refine (lines_walk op0 a0 b0 i0 l1 W hT (by omega)).mono fun e W' ⟨he, hb⟩ => ?_
  subst he
  exact ⟨_, rfl, law_post laidOut (by kernel_rfl) Tryd.underlying4 (by kernel_rfl) rfl hW' rfl hb⟩

theorem lines_met (os : Os) : laidMet Tryd.prog Rows.asmLinesUptoRow.laid ((laidWorld5 os).forCall (fun _ _ => 0) ⟨#[], #[.agg #[.int .i64 0, .int .i64 0, .int .i64 0, .int .i64 0], .string .empty], []⟩).memory :=
  laidMet_of_run' 8 (by kernel_rfl) (by kernel_rfl)
theorem lines_reads (os : Os) {H : Type} (enc : TypeId × Value → H) : ∃ places, DataW.whole enc Tryd.prog ((laidWorld5 os).forCall (fun _ _ => 0) ⟨#[], #[.agg #[.int .i64 0, .int .i64 0, .int .i64 0, .int .i64 0], .string .empty], []⟩).memory Tryd.f4.params.toList Rows.asmLinesSpec.vars false (#[.agg #[.int .i64 0, .int .i64 0, .int .i64 0, .int .i64 0], .string .empty] : Array Value).toList 8 = some ([.agg [.lit (.int .i64 0), .lit (.int .i64 0), .lit (.int .i64 0), .lit (.int .i64 0)], .lit (.string [])], [], places) :=
  ⟨[], by kernel_rfl⟩

set_option maxRecDepth 100000 in
theorem lines_lifted (os : Os) (started : os.Started) (H : Type) (enc : TypeId × Value → H) (F : Stop.Interp) :
    ReturnsInHanded {} Tryd.checked os 4 .any ((Rows.OpenSpec.upto Rows.asmLinesSpec).preRow enc Tryd.prog Tryd.f4 Rows.asmLinesUptoRow.domain false Rows.asmLinesUptoRow.laid) (((Rows.OpenSpec.upto Rows.asmLinesSpec).at F).post enc Tryd.prog Tryd.f4 false true false false) := by
  obtain ⟨places, hx⟩ := lines_reads os enc
  refine returnsInHanded_of_row (C := Tryd.checked) (s := Rows.OpenSpec.upto Rows.asmLinesSpec) own started (by kernel_rfl) Tryd.func4
    (witness_row_at (enc := enc) (C := Tryd.checked) false (laidWorld5 os) #[.agg #[.int .i64 0, .int .i64 0, .int .i64 0, .int .i64 0], .string .empty] rfl (by kernel_rfl) (by kernel_rfl) (by kernel_rfl)
      (OpenSpec.preRow_of_cond 8 hx (by kernel_rfl) (fun k hk => by cases hk; kernel_rfl) (by kernel_rfl) (lines_met os))) ?_
  intro W base args ds gs before hval hW _ hcond _ hL _ _
  exact lines_contract H enc W base args ds gs before hval hW hL (hcond _ rfl)

theorem lines_said : Rows.AsmLinesUptoSaid :=
  OpenClaim.holds_of_cond 4 Tryd.f4 rfl rfl rfl rfl rfl rfl rfl ⟨rfl, rfl, rfl, rfl, rfl⟩ rfl rfl rfl rfl rfl (by kernel_rfl) Tryd.func4 (by kernel_rfl)
    (of_decide_eq_true (by kernel_rfl)) (by unfold Func.isWrapper; first | (rw [if_pos (by decide +kernel)]; kernel_rfl) | (rw [if_neg (by decide +kernel)]; exact ⟨rfl, rfl⟩))
    (fun os started H enc _ F => by rw [OpenClaim.pre_eq_preRow]; exact lines_lifted os started H enc F)

theorem lines_plain (f : FuncId) (fn : Func) (hf : Tryd.pinned.checked.prog.funcNamed "transom/transomlaw19.AsmLines" = some f) (hfn : Tryd.pinned.checked.prog.funcs[f]? = some fn) :
    false = Tryd.pinned.checked.prog.looks [] ∧ ∀ (j : Nat) t, fn.params[j]? = some t → Tryd.pinned.checked.prog.wantsStandIn t = false := by
  obtain rfl : f = 4 := Option.some.inj ((show Tryd.prog.funcNamed "transom/transomlaw19.AsmLines" = some 4 by kernel_rfl).symm.trans hf) |>.symm
  obtain rfl : fn = Tryd.f4 := (Option.some.inj (Tryd.func4.symm.trans hfn)).symm
  refine ⟨by kernel_rfl, fun j t ht => ?_⟩
  rw [Tryd.params4] at ht
  have hm : t ∈ [27, 9] := by simpa using Array.mem_of_getElem? ht
  have hall : ([27, 9].all fun u => !Tryd.prog.wantsStandIn u) = true := by kernel_rfl
  exact (show Tryd.prog.wantsStandIn t = false by simpa using List.all_eq_true.1 hall t hm)

theorem lines_holds : Rows.AsmLinesUptoCardSaid :=
  Claim7.holds_tied_plain_at .later [] _ _ _ _ lines_said (fun _ h => by cases h) (by kernel_rfl) (fun _ h => by cases h) asmLinesUpto_row_tie rfl ⟨rfl, rfl⟩ (by kernel_rfl) rfl lines_plain (by kernel_rfl)


end Go.Proofs.YtijjamiidpikdaaDoor.Asm
