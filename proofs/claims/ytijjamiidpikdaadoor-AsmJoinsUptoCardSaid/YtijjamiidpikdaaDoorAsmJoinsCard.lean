/-
  AsmJoins: of two texts, one behind the other, the programs are read one behind the other. Conditions: the listed variables as the program lays them (tied); what is read is of bulk at most 1048576.
-/
import Derived.Test.YtijjamiidpikdaaDoorAsmInsArg
import Derived.Test.YtijjamiidpikdaaDoorAsmJoins
namespace Go.Proofs.YtijjamiidpikdaaDoor.Asm
open Go.ChangeShapes Go.WideShapes Go.ChangeAt Go.RowKit Go.Joins Go.ChangeMaps Go.Proofs.YtijjamiidpikdaaDoor.Isa

theorem joins_contract (H : Type) (enc : TypeId × Value → H) (W : World) (base : Nat) (args : Array Value) (ds gs : List (DataW H)) (before : List MemPlace)
    (hval : ∀ (j : Nat) t v, Tryd.f6.params[j]? = some t → args[j]? = some v → Value.okWide Tryd.prog W .any base t v)
    (hW : DataW.Whole enc Tryd.prog Tryd.f6.params.toList Rows.asmJoinsSpec.vars false W args.toList ds gs before) (hL : laidMetH Tryd.prog Rows.asmJoinsUptoRow.laid W) (hc : Rows.uptoSmall H (ds ++ gs) = true) :
    Calls Tryd.prog 6 args W fun e W' => ∃ v, e = .returned v ∧ Rows.asmJoinsSpec.post enc Tryd.prog Tryd.f6 false true false false W args v W' := by
  have hW' := hW
  obtain ⟨p, q, hA0, hV, rfl, hfz, hnd⟩ := hW
  have hA : DataW.TrodAll enc Tryd.prog W 0 (fun _ => true) true Tryd.f6.params.toList args.toList ds p := hA0
  rw [Tryd.params6] at hA hval
  obtain ⟨v0, v1, d0, d1, p0, p1, rfl, rfl, rfl, h0, h1⟩ := trodAll_two hA
  obtain ⟨rfl, rfl⟩ := trodVars_none hV
  obtain ⟨s0, rfl, rfl, rfl, hm0⟩ := open_string Tryd.underlying9 (hval 0 9 v0 rfl rfl) h0
  obtain ⟨l0, rfl⟩ : ∃ l : List UInt8, s0 = ⟨l.toArray⟩ := ⟨s0.data.toList, by apply ByteArray.ext; simp⟩
  have hm0 : l0.length ≤ maxLen := hm0
  obtain ⟨s1, rfl, rfl, rfl, hm1⟩ := open_string Tryd.underlying9 (hval 1 9 v1 rfl rfl) h1
  obtain ⟨l1, rfl⟩ : ∃ l : List UInt8, s1 = ⟨l.toArray⟩ := ⟨s1.data.toList, by apply ByteArray.ext; simp⟩
  have hm1 : l1.length ≤ maxLen := hm1
  have hq := bulk_two hc
  repeat rw [bulk_bytes] at hq
  have hT : Tabs W := by
    obtain ⟨ps, hps, _⟩ := hL
    exact tabs_of5 hps
  refine (joins_walk l0 l1 W hT (by omega) (by omega)).mono fun e W' ⟨he, hb⟩ => ?_
  subst he
  exact ⟨_, rfl, law_post laidOut (by kernel_rfl) Tryd.underlying4 (by kernel_rfl) rfl hW' rfl hb⟩

theorem joins_met (os : Os) : laidMet Tryd.prog Rows.asmJoinsUptoRow.laid ((laidWorld5 os).forCall (fun _ _ => 0) ⟨#[], #[.string .empty, .string .empty], []⟩).memory :=
  laidMet_of_run' 8 (by kernel_rfl) (by kernel_rfl)
theorem joins_reads (os : Os) {H : Type} (enc : TypeId × Value → H) : ∃ places, DataW.whole enc Tryd.prog ((laidWorld5 os).forCall (fun _ _ => 0) ⟨#[], #[.string .empty, .string .empty], []⟩).memory Tryd.f6.params.toList Rows.asmJoinsSpec.vars false (#[.string .empty, .string .empty] : Array Value).toList 8 = some ([.lit (.string []), .lit (.string [])], [], places) :=
  ⟨[], by kernel_rfl⟩

set_option maxRecDepth 100000 in
theorem joins_lifted (os : Os) (started : os.Started) (H : Type) (enc : TypeId × Value → H) (F : Stop.Interp) :
    ReturnsInHanded {} Tryd.checked os 6 .any ((Rows.OpenSpec.upto Rows.asmJoinsSpec).preRow enc Tryd.prog Tryd.f6 Rows.asmJoinsUptoRow.domain false Rows.asmJoinsUptoRow.laid) (((Rows.OpenSpec.upto Rows.asmJoinsSpec).at F).post enc Tryd.prog Tryd.f6 false true false false) := by
  obtain ⟨places, hx⟩ := joins_reads os enc
  refine returnsInHanded_of_row (C := Tryd.checked) (s := Rows.OpenSpec.upto Rows.asmJoinsSpec) own started (by kernel_rfl) Tryd.func6
    (witness_row_at (enc := enc) (C := Tryd.checked) false (laidWorld5 os) #[.string .empty, .string .empty] rfl (by kernel_rfl) (by kernel_rfl) (by kernel_rfl)
      (OpenSpec.preRow_of_cond 8 hx (by kernel_rfl) (fun k hk => by cases hk; kernel_rfl) (by kernel_rfl) (joins_met os))) ?_
  intro W base args ds gs before hval hW _ hcond _ hL _ _
  exact joins_contract H enc W base args ds gs before hval hW hL (hcond _ rfl)

theorem joins_said : Rows.AsmJoinsUptoSaid :=
  OpenClaim.holds_of_cond 6 Tryd.f6 rfl rfl rfl rfl rfl rfl rfl ⟨rfl, rfl, rfl, rfl, rfl⟩ rfl rfl rfl rfl rfl (by kernel_rfl) Tryd.func6 (by kernel_rfl)
    (of_decide_eq_true (by kernel_rfl)) (by unfold Func.isWrapper; first | (rw [if_pos (by decide +kernel)]; kernel_rfl) | (rw [if_neg (by decide +kernel)]; exact ⟨rfl, rfl⟩))
    (fun os started H enc _ F => by rw [OpenClaim.pre_eq_preRow]; exact joins_lifted os started H enc F)

theorem joins_plain (f : FuncId) (fn : Func) (hf : Tryd.pinned.checked.prog.funcNamed "transom/transomlaw19.AsmJoins" = some f) (hfn : Tryd.pinned.checked.prog.funcs[f]? = some fn) :
    false = Tryd.pinned.checked.prog.looks [] ∧ ∀ (j : Nat) t, fn.params[j]? = some t → Tryd.pinned.checked.prog.wantsStandIn t = false := by
  obtain rfl : f = 6 := Option.some.inj ((show Tryd.prog.funcNamed "transom/transomlaw19.AsmJoins" = some 6 by kernel_rfl).symm.trans hf) |>.symm
  obtain rfl : fn = Tryd.f6 := (Option.some.inj (Tryd.func6.symm.trans hfn)).symm
  refine ⟨by kernel_rfl, fun j t ht => ?_⟩
  rw [Tryd.params6] at ht
  have hm : t ∈ [9, 9] := by simpa using Array.mem_of_getElem? ht
  have hall : ([9, 9].all fun u => !Tryd.prog.wantsStandIn u) = true := by kernel_rfl
  exact (show Tryd.prog.wantsStandIn t = false by simpa using List.all_eq_true.1 hall t hm)

theorem joins_holds : Rows.AsmJoinsUptoCardSaid :=
  Claim7.holds_tied_plain_at .later [] _ _ _ _ joins_said (fun _ h => by cases h) (by kernel_rfl) (fun _ h => by cases h) asmJoinsUpto_row_tie rfl ⟨rfl, rfl⟩ (by kernel_rfl) rfl joins_plain (by kernel_rfl)


end Go.Proofs.YtijjamiidpikdaaDoor.Asm
