/-
  PortTakes: what is taken is what would have been looked at; of a queue one fewer waits then. Conditions: none.
-/
import Derived.Test.YtepnfhjfjjdpkaaPortArgs
import Derived.Test.YtepnfhjfjjdpkaaPortTakes
namespace Go.Proofs.Ytepnfhjfjjdpkaa.Port
open Go.ChangeShapes Go.WideShapes Go.ChangeAt Go.RowKit Go.Joins

theorem takes_any (kind fr to size depth lost : Int) (A : Option Addr) (n c : Nat) (ms : List Msg) (w : World) (hA : Rd w A n c ms) :
    Calls Try.prog 8 #[.agg #[.int .i64 kind, .int .i64 fr, .int .i64 to, .int .i64 size, .int .i64 depth], .agg #[.slice A n c, .int .i64 lost]] w fun e w' =>
      e = .returned (.bool true) ∧ Below w.heap.size w w' := by
  cases ms with
  | nil => exact takes_none kind fr to size depth lost A n c w hA
  | cons m ms =>
    by_cases h1 : kind = 1
    · subst h1
      exact takes_sample fr to size depth lost A n c m ms w hA
    have hk : (kind == 1) = false := by rw [beq_eq_false_iff_ne]; exact h1
    by_cases hc : c = 1
    · subst hc
      obtain rfl : n = 1 := by have h1 := hA.1; have h2 := hA.2.1; simp at h1; omega
      exact takes_queue1 kind fr to size depth lost A m ms w hA hk
    · exact takes_queue kind fr to size depth lost A n c m ms w hA hk hc

theorem takes_contract (H : Type) (enc : TypeId × Value → H) (W : World) (base : Nat) (args : Array Value) (ds gs : List (DataW H)) (before : List MemPlace)
    (hval : ∀ (j : Nat) t v, Try.f8.params[j]? = some t → args[j]? = some v → Value.okWide Try.prog W .any base t v)
    (hW : DataW.Whole enc Try.prog Try.f8.params.toList Rows.portTakesSpec.vars false W args.toList ds gs before)
    (hsz : (DataW.weightsEach Try.prog (Try.f8.params.toList ++ (OpenSpec.ofChange Rows.portTakesSpec).bare.plain.varTypes Try.prog) (ds ++ gs)).all (· ≤ reachBytes) = true) :
    Calls Try.prog 8 args W fun e W' => ∃ v, e = .returned v ∧ Rows.portTakesSpec.post enc Try.prog Try.f8 false true false false W args v W' := by
  have hW' := hW
  obtain ⟨p, q, hA0, hV, rfl, hfz, hnd⟩ := hW
  have hA : DataW.TrodAll enc Try.prog W 0 (fun _ => true) true Try.f8.params.toList args.toList ds p := hA0
  rw [Try.params8] at hA hval hsz
  obtain ⟨v0, v1, d0, d1, p0, p1, rfl, rfl, rfl, h0, h1⟩ := trodAll_two hA
  obtain ⟨rfl, rfl⟩ := trodVars_none hV
  obtain ⟨cs0, rfl, hsize0⟩ := okWide_struct Try.underlying23 (hval 0 23 v0 rfl rfl)
  obtain ⟨fuel0, hf0⟩ := h0
  obtain ⟨kind, fr, to, size, depth, e0⟩ := open_chan hf0
  have e0' : cs0 = #[.int .i64 kind, .int .i64 fr, .int .i64 to, .int .i64 size, .int .i64 depth] := by rw [← Array.toArray_toList (xs := cs0)]; exact congrArg List.toArray e0
  subst e0'
  obtain ⟨cs1, rfl, hsize1⟩ := okWide_struct Try.underlying26 (hval 1 26 v1 rfl rfl)
  obtain ⟨fuel1, hf1⟩ := h1
  obtain ⟨A, n, c, ms, lost, e1, hR1, hw1, hwf1⟩ := open_box hf1
  have e1' : cs1 = #[.slice A n c, .int .i64 lost] := by rw [← Array.toArray_toList (xs := cs1)]; exact congrArg List.toArray e1
  subst e1'
  refine (takes_any kind fr to size depth lost A n c ms W hR1).mono fun e W' ⟨he, hb⟩ => ?_
  subst he
  exact ⟨_, rfl, law_post laidOut (by kernel_rfl) Try.underlying4 (by kernel_rfl) rfl hW' rfl hb⟩

noncomputable def takes_world (os : Os) : World := World.holding Try.prog os ⟨#[], #[], []⟩
theorem takes_met (os : Os) : laidMet Try.prog Rows.portTakesRow.laid ((takes_world os).forCall (fun _ _ => 0) ⟨#[], #[.agg #[.int .i64 0, .int .i64 0, .int .i64 0, .int .i64 0, .int .i64 0], .agg #[.slice none 0 0, .int .i64 0]], []⟩).memory :=
  laidMet_of_run' 8 (by kernel_rfl) (by kernel_rfl)
theorem takes_reads (os : Os) {H : Type} (enc : TypeId × Value → H) : ∃ places, DataW.whole enc Try.prog ((takes_world os).forCall (fun _ _ => 0) ⟨#[], #[.agg #[.int .i64 0, .int .i64 0, .int .i64 0, .int .i64 0, .int .i64 0], .agg #[.slice none 0 0, .int .i64 0]], []⟩).memory Try.f8.params.toList Rows.portTakesSpec.vars false (#[.agg #[.int .i64 0, .int .i64 0, .int .i64 0, .int .i64 0, .int .i64 0], .agg #[.slice none 0 0, .int .i64 0]] : Array Value).toList 8 = some ([.agg [.lit (.int .i64 0), .lit (.int .i64 0), .lit (.int .i64 0), .lit (.int .i64 0), .lit (.int .i64 0)], .agg [.nil, .lit (.int .i64 0)]], [], places) :=
  ⟨[], by kernel_rfl⟩

set_option maxRecDepth 100000 in
theorem takes_lifted (os : Os) (started : os.Started) (H : Type) (enc : TypeId × Value → H) (F : Stop.Interp) :
    ReturnsInHanded {} Try.checked os 8 .any ((OpenSpec.ofChange Rows.portTakesSpec).preRow enc Try.prog Try.f8 Rows.portTakesRow.domain false Rows.portTakesRow.laid) (((OpenSpec.ofChange Rows.portTakesSpec).at F).post enc Try.prog Try.f8 false true false false) := by
  obtain ⟨places, hx⟩ := takes_reads os enc
  refine returnsInHanded_of_row (C := Try.checked) (s := OpenSpec.ofChange Rows.portTakesSpec) own started (by kernel_rfl) Try.func8
    (witness_row_at (enc := enc) (C := Try.checked) false (takes_world os) #[.agg #[.int .i64 0, .int .i64 0, .int .i64 0, .int .i64 0, .int .i64 0], .agg #[.slice none 0 0, .int .i64 0]] rfl (by kernel_rfl) (by kernel_rfl) (by kernel_rfl)
      (OpenSpec.preRow_of_cond 8 hx (by kernel_rfl) (fun k hk => by cases hk) (by kernel_rfl) (takes_met os))) ?_
  intro W base args ds gs before hval hW _ _ hsz _ _ _
  exact takes_contract H enc W base args ds gs before hval hW hsz

theorem takes_said : Rows.PortTakesSaid :=
  OpenClaim.holds_of_cond 8 Try.f8 rfl rfl rfl rfl rfl rfl rfl ⟨rfl, rfl, rfl, rfl, rfl⟩ rfl rfl rfl rfl rfl (by kernel_rfl) Try.func8 (by kernel_rfl)
    (of_decide_eq_true (by kernel_rfl)) (by unfold Func.isWrapper; first | (rw [if_pos (by decide +kernel)]; kernel_rfl) | (rw [if_neg (by decide +kernel)]; exact ⟨rfl, rfl⟩))
    (fun os started H enc _ F => by rw [OpenClaim.pre_eq_preRow]; exact takes_lifted os started H enc F)


end Go.Proofs.Ytepnfhjfjjdpkaa.Port
