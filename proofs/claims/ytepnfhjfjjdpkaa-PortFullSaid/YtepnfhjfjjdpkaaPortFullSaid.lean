/-
  PortFull: into a queue that is full nothing comes; one more is lost. Conditions: none.
-/
import Derived.Test.YtepnfhjfjjdpkaaPortArgs
import Derived.Test.YtepnfhjfjjdpkaaPortFull
namespace Go.Proofs.Ytepnfhjfjjdpkaa.Port
open Go.ChangeShapes Go.WideShapes Go.ChangeAt Go.RowKit Go.Joins

theorem cellsPortFullIn : Try.prog.cellsOf 59 = 9 := by kernel_rfl

theorem full_contract (H : Type) (enc : TypeId × Value → H) (W : World) (base : Nat) (args : Array Value) (ds gs : List (DataW H)) (before : List MemPlace)
    (hval : ∀ (j : Nat) t v, Try.f9.params[j]? = some t → args[j]? = some v → Value.okWide Try.prog W .any base t v)
    (hW : DataW.Whole enc Try.prog Try.f9.params.toList Rows.portFullSpec.vars false W args.toList ds gs before)
    (hsz : (DataW.weightsEach Try.prog (Try.f9.params.toList ++ (OpenSpec.ofChange Rows.portFullSpec).bare.plain.varTypes Try.prog) (ds ++ gs)).all (· ≤ reachBytes) = true) :
    Calls Try.prog 9 args W fun e W' => ∃ v, e = .returned v ∧ Rows.portFullSpec.post enc Try.prog Try.f9 false true false false W args v W' := by
  have hW' := hW
  obtain ⟨p, q, hA0, hV, rfl, hfz, hnd⟩ := hW
  have hA : DataW.TrodAll enc Try.prog W 0 (fun _ => true) true Try.f9.params.toList args.toList ds p := hA0
  rw [Try.params9] at hA hval hsz
  obtain ⟨v0, d0, rfl, rfl, h0⟩ := trodAll_one hA
  obtain ⟨rfl, rfl⟩ := trodVars_none hV
  obtain ⟨cs, rfl, hsize⟩ := okWide_struct Try.underlying59 (hval 0 59 v0 rfl rfl)
  obtain ⟨fuel, hf0⟩ := h0
  obtain ⟨xs, n, rfl, hx, hlen, hxl, hf⟩ := DataW.trod_struct Try.underlying59 hf0
  obtain ⟨c0, c1, c2, c3, c4, c5, c6, c7, c8, hcs⟩ := list9 cs.toList (by rw [Array.length_toList, hsize, cellsPortFullIn])
  obtain ⟨x0, x1, x2, x3, rfl⟩ := list4 xs hxl
  have hcs' : cs = #[c0, c1, c2, c3, c4, c5, c6, c7, c8] := by rw [← Array.toArray_toList (xs := cs), hcs]
  subst hcs'
  obtain ⟨kind, fr, to, size, depth, e0⟩ := open_chan (x := x0) (by simpa [cellsChan, Value.cells] using hf 0 _ rfl)
  obtain ⟨A, n1, m1, ms, lost, e1, hR1, hw1, hwf1⟩ := open_box (x := x1) (by simpa [cellsBox, Value.cells] using hf 1 _ rfl)
  obtain ⟨now, e2, _, _⟩ := DataW.trod_int Try.underlying27 (x := x2) (by simpa [cellsU64, Value.cells] using hf 2 _ rfl)
  obtain ⟨body, e3, _, hm3⟩ := DataW.trod_string Try.underlying9 (x := x3) (by simpa [cellsStr, Value.cells] using hf 3 _ rfl)
  simp only [List.cons.injEq, and_true] at e0 e1 e2 e3
  obtain ⟨rfl, rfl, rfl, rfl, rfl⟩ := e0
  obtain ⟨rfl, rfl⟩ := e1
  obtain rfl := e2
  obtain rfl := e3
  obtain ⟨rfl, _⟩ := Prod.mk.injEq .. ▸ hx
  have hq1 : (DataW.weights Try.prog 26 x1.1).all (· ≤ reachBytes) = true := by
    simp [DataW.weightsEach, DataW.weights, Try.underlying59] at hsz
    simp
    exact hsz.2.1
  have k1 := hw1 hq1
  have g1 := hR1.2.1
  have room1 : (n1 + 1) * 24 ≤ 140737488355328 := by unfold reachBytes at k1; omega
  refine (full_walk kind fr to size depth lost now A n1 m1 ms body W hR1 hm3).mono fun e W' ⟨he, hb⟩ => ?_
  subst he
  exact ⟨_, rfl, law_post laidOut (by kernel_rfl) Try.underlying4 (by kernel_rfl) rfl hW' rfl hb⟩

noncomputable def full_world (os : Os) : World := World.holding Try.prog os ⟨#[], #[], []⟩
theorem full_met (os : Os) : laidMet Try.prog Rows.portFullRow.laid ((full_world os).forCall (fun _ _ => 0) ⟨#[], #[.agg #[.int .i64 0, .int .i64 0, .int .i64 0, .int .i64 0, .int .i64 0, .slice none 0 0, .int .i64 0, .int .u64 0, .string .empty]], []⟩).memory :=
  laidMet_of_run' 8 (by kernel_rfl) (by kernel_rfl)
theorem full_reads (os : Os) {H : Type} (enc : TypeId × Value → H) : ∃ places, DataW.whole enc Try.prog ((full_world os).forCall (fun _ _ => 0) ⟨#[], #[.agg #[.int .i64 0, .int .i64 0, .int .i64 0, .int .i64 0, .int .i64 0, .slice none 0 0, .int .i64 0, .int .u64 0, .string .empty]], []⟩).memory Try.f9.params.toList Rows.portFullSpec.vars false (#[.agg #[.int .i64 0, .int .i64 0, .int .i64 0, .int .i64 0, .int .i64 0, .slice none 0 0, .int .i64 0, .int .u64 0, .string .empty]] : Array Value).toList 8 = some ([.agg [.agg [.lit (.int .i64 0), .lit (.int .i64 0), .lit (.int .i64 0), .lit (.int .i64 0), .lit (.int .i64 0)], .agg [.nil, .lit (.int .i64 0)], .lit (.int .u64 0), .lit (.string [])]], [], places) :=
  ⟨[], by kernel_rfl⟩

set_option maxRecDepth 100000 in
theorem full_lifted (os : Os) (started : os.Started) (H : Type) (enc : TypeId × Value → H) (F : Stop.Interp) :
    ReturnsInHanded {} Try.checked os 9 .any ((OpenSpec.ofChange Rows.portFullSpec).preRow enc Try.prog Try.f9 Rows.portFullRow.domain false Rows.portFullRow.laid) (((OpenSpec.ofChange Rows.portFullSpec).at F).post enc Try.prog Try.f9 false true false false) := by
  obtain ⟨places, hx⟩ := full_reads os enc
  refine returnsInHanded_of_row (C := Try.checked) (s := OpenSpec.ofChange Rows.portFullSpec) own started (by kernel_rfl) Try.func9
    (witness_row_at (enc := enc) (C := Try.checked) false (full_world os) #[.agg #[.int .i64 0, .int .i64 0, .int .i64 0, .int .i64 0, .int .i64 0, .slice none 0 0, .int .i64 0, .int .u64 0, .string .empty]] rfl (by kernel_rfl) (by kernel_rfl) (by kernel_rfl)
      (OpenSpec.preRow_of_cond 8 hx (by kernel_rfl) (fun k hk => by cases hk) (by kernel_rfl) (full_met os))) ?_
  intro W base args ds gs before hval hW _ _ hsz _ _ _
  exact full_contract H enc W base args ds gs before hval hW hsz

theorem full_said : Rows.PortFullSaid :=
  OpenClaim.holds_of_cond 9 Try.f9 rfl rfl rfl rfl rfl rfl rfl ⟨rfl, rfl, rfl, rfl, rfl⟩ rfl rfl rfl rfl rfl (by kernel_rfl) Try.func9 (by kernel_rfl)
    (of_decide_eq_true (by kernel_rfl)) (by unfold Func.isWrapper; first | (rw [if_pos (by decide +kernel)]; kernel_rfl) | (rw [if_neg (by decide +kernel)]; exact ⟨rfl, rfl⟩))
    (fun os started H enc _ F => by rw [OpenClaim.pre_eq_preRow]; exact full_lifted os started H enc F)


end Go.Proofs.Ytepnfhjfjjdpkaa.Port
