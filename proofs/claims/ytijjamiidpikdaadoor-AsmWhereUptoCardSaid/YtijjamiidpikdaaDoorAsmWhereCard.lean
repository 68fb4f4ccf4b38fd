/-
  AsmWhere: the line that is told of a text that is none is the first one that isn't a line: with it left out, and all behind, the text is read. Conditions: the listed variables as the program lays them (tied); what is read is of bulk at most 1048576.
-/
import Derived.Test.YtijjamiidpikdaaDoorAsmInsArg
import Derived.Test.YtijjamiidpikdaaDoorAsmWhere
namespace Go.Proofs.YtijjamiidpikdaaDoor.Asm
open Go.ChangeShapes Go.WideShapes Go.ChangeAt Go.RowKit Go.Joins Go.ChangeMaps Go.Proofs.YtijjamiidpikdaaDoor.Isa

theorem where_contract (H : Type) (enc : TypeId × Value → H) (W : World) (base : Nat) (args : Array Value) (ds gs : List (DataW H)) (before : List MemPlace)
    (hval : ∀ (j : Nat) t v, Tryd.f7.params[j]? = some t → args[j]? = some v → Value.okWide Tryd.prog W .any base t v)
    (hW : DataW.Whole enc Tryd.prog Tryd.f7.params.toList Rows.asmWhereSpec.vars false W args.toList ds gs before) (hL : laidMetH Tryd.prog Rows.asmWhereUptoRow.laid W) (hc : Rows.uptoSmall H (ds ++ gs) = true) :
    Calls Tryd.prog 7 args W fun e W' => ∃ v, e = .returned v ∧ Rows.asmWhereSpec.post enc Tryd.prog Tryd.f7 false true false false W args v W' := by
  have hW' := hW
  obtain ⟨p, q, hA0, hV, rfl, hfz, hnd⟩ := hW
  have hA : DataW.TrodAll enc Tryd.prog W 0 (fun _ => true) true Tryd.f7.params.toList args.toList ds p := hA0
  rw [Tryd.params7] at hA hval
  obtain ⟨v0, d0, rfl, rfl, h0⟩ := trodAll_one hA
  obtain ⟨rfl, rfl⟩ := trodVars_none hV
  obtain ⟨s0, rfl, rfl, rfl, hm0⟩ := open_string Tryd.underlying9 (hval 0 9 v0 rfl rfl) h0
  obtain ⟨l0, rfl⟩ : ∃ l : List UInt8, s0 = ⟨l.toArray⟩ := ⟨s0.data.toList, by apply ByteArray.ext; simp⟩
  have hm0 : l0.length ≤ maxLen := hm0
  have hq := bulk_one hc
  repeat rw [bulk_bytes] at hq
  have hT : Tabs W := by
    obtain ⟨ps, hps, _⟩ := hL
    exact tabs_of5 hps
  refine (where_walk l0 W hT (by omega)).mono fun e W' ⟨he, hb⟩ => ?_
  subst he
  exact ⟨_, rfl, law_post laidOut (by kernel_rfl) Tryd.underlying4 (by kernel_rfl) rfl hW' rfl hb⟩

theorem where_met (os : Os) : laidMet Tryd.prog Rows.asmWhereUptoRow.laid ((laidWorld5 os).forCall (fun _ _ => 0) ⟨#[], #[.string .empty], []⟩).memory :=
  laidMet_of_run' 8 (by kernel_rfl) (by kernel_rfl)
theorem where_reads (os : Os) {H : Type} (enc : TypeId × Value → H) : ∃ places, DataW.whole enc Tryd.prog ((laidWorld5 os).forCall (fun _ _ => 0) ⟨#[], #[.string .empty], []⟩).memory Tryd.f7.params.toList Rows.asmWhereSpec.vars false (#[.string .empty] : Array Value).toList 8 = some ([.lit (.string [])], [], places) :=
  ⟨[], by kernel_rfl⟩

set_option maxRecDepth 100000 in
theorem where_lifted (os : Os) (started : os.Started) (H : Type) (enc : TypeId × Value → H) (F : Stop.Interp) :
    ReturnsInHanded {} Tryd.checked os 7 .any ((Rows.OpenSpec.upto Rows.asmWhereSpec).preRow enc Tryd.prog Tryd.f7 Rows.asmWhereUptoRow.domain false Rows.asmWhereUptoRow.laid) (((Rows.OpenSpec.upto Rows.asmWhereSpec).at F).post enc Tryd.prog Tryd.f7 false true false false) := by
  obtain ⟨places, hx⟩ := where_reads os enc
  refine returnsInHanded_of_row (C := Tryd.checked) (s := Rows.OpenSpec.upto Rows.asmWhereSpec) own started (by kernel_rfl) Tryd.func7
    (witness_row_at (enc := enc) (C := Tryd.checked) false (laidWorld5 os) #[.string .empty] rfl (by kernel_rfl) (by kernel_rfl) (by kernel_rfl)
      (OpenSpec.preRow_of_cond 8 hx (by kernel_rfl) (fun k hk => by cases hk; kernel_rfl) (by kernel_rfl) (where_met os))) ?_
  intro W base args ds gs before hval hW _ hcond _ hL _ _
  exact where_contract H enc W base args ds gs before hval hW hL (hcond _ rfl)

theorem where_said : Rows.AsmWhereUptoSaid :=
  OpenClaim.holds_of_cond 7 Tryd.f7 rfl rfl rfl rfl rfl rfl rfl ⟨rfl, rfl, rfl, rfl, rfl⟩ rfl rfl rfl rfl rfl (by kernel_rfl) Tryd.func7 (by kernel_rfl)
    (of_decide_eq_true (by kernel_rfl)) (by unfold Func.isWrapper; first | (rw [if_pos (by decide +kernel)]; kernel_rfl) | (rw [if_neg (by decide +kernel)]; exact ⟨rfl, rfl⟩))
    (fun os started H enc _ F => by rw [OpenClaim.pre_eq_preRow]; exact where_lifted os started H enc F)

theorem where_plain (f : FuncId) (fn : Func) (hf : Tryd.pinned.checked.prog.funcNamed "transom/transomlaw19.AsmWhere" = some f) (hfn : Tryd.pinned.checked.prog.funcs[f]? = some fn) :
    false = Tryd.pinned.checked.prog.looks [] ∧ ∀ (j : Nat) t, fn.params[j]? = some t → Tryd.pinned.checked.prog.wantsStandIn t = false := by
  obtain rfl : f = 7 := Option.some.inj ((show Tryd.prog.funcNamed "transom/transomlaw19.AsmWhere" = some 7 by kernel_rfl).symm.trans hf) |>.symm
  obtain rfl : fn = Tryd.f7 := (Option.some.inj (Tryd.func7.symm.trans hfn)).symm
  refine ⟨by kernel_rfl, fun j t ht => ?_⟩
  rw [Tryd.params7] at ht
  have hm : t ∈ [9] := by simpa using Array.mem_of_getElem? ht
  have hall : ([9].all fun u => !Tryd.prog.wantsStandIn u) = true := by kernel_rfl
  exact (show Tryd.prog.wantsStandIn t = false by simpa using List.all_eq_true.1 hall t hm)

theorem where_holds : Rows.AsmWhereUptoCardSaid :=
  Claim7.holds_tied_plain_at .later [] _ _ _ _ where_said (fun _ h => by cases h) (by kernel_rfl) (fun _ h => by cases h) asmWhereUpto_row_tie rfl ⟨rfl, rfl⟩ (by kernel_rfl) rfl where_plain (by kernel_rfl)


end Go.Proofs.YtijjamiidpikdaaDoor.Asm
