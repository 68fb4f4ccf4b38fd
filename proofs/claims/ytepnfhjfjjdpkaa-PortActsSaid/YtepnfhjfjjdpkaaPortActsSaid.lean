/-
  PortActs: whatever channel, whatever waits: what is sent, taken, looked at, is as the document says. Conditions: none.
-/
import Derived.Test.YtepnfhjfjjdpkaaPortArgs
import Derived.Test.YtepnfhjfjjdpkaaPortActs
namespace Go.Proofs.Ytepnfhjfjjdpkaa.Port
open Go.ChangeShapes Go.WideShapes Go.ChangeAt Go.RowKit Go.Joins

theorem cellsPortActsIn : Try.prog.cellsOf 46 = 11 := by kernel_rfl

theorem acts_contract (H : Type) (enc : TypeId × Value → H) (W : World) (base : Nat) (args : Array Value) (ds gs : List (DataW H)) (before : List MemPlace)
    (hval : ∀ (j : Nat) t v, Try.f6.params[j]? = some t → args[j]? = some v → Value.okWide Try.prog W .any base t v)
    (hW : DataW.Whole enc Try.prog Try.f6.params.toList Rows.portActsSpec.vars false W args.toList ds gs before)
    (hsz : (DataW.weightsEach Try.prog (Try.f6.params.toList ++ (OpenSpec.ofChange Rows.portActsSpec).bare.plain.varTypes Try.prog) (ds ++ gs)).all (· ≤ reachBytes) = true) :
    Calls Try.prog 6 args W fun e W' => ∃ v, e = .returned v ∧ Rows.portActsSpec.post enc Try.prog Try.f6 false true false false W args v W' := by
  have hW' := hW
  obtain ⟨p, q, hA0, hV, rfl, hfz, hnd⟩ := hW
  have hA : DataW.TrodAll enc Try.prog W 0 (fun _ => true) true Try.f6.params.toList args.toList ds p := hA0
  rw [Try.params6] at hA hval hsz
  obtain ⟨v0, d0, rfl, rfl, h0⟩ := trodAll_one hA
  obtain ⟨rfl, rfl⟩ := trodVars_none hV
  obtain ⟨cs, rfl, hsize⟩ := okWide_struct Try.underlying46 (hval 0 46 v0 rfl rfl)
  obtain ⟨fuel, hf0⟩ := h0
  obtain ⟨xs, n, rfl, hx, hlen, hxl, hf⟩ := DataW.trod_struct Try.underlying46 hf0
  obtain ⟨c0, c1, c2, c3, c4, c5, c6, c7, c8, c9, c10, hcs⟩ := list11 cs.toList (by rw [Array.length_toList, hsize, cellsPortActsIn])
  obtain ⟨x0, x1, x2, x3, x4, rfl⟩ := list5 xs hxl
  have hcs' : cs = #[c0, c1, c2, c3, c4, c5, c6, c7, c8, c9, c10] := by rw [← Array.toArray_toList (xs := cs), hcs]
  subst hcs'
  obtain ⟨kind, fr, to, size, depth, e0⟩ := open_chan (x := x0) (by simpa [cellsChan, Value.cells] using hf 0 _ rfl)
  obtain ⟨A, n1, m1, ms, lost, e1, hR1, hw1, hwf1⟩ := open_box (x := x1) (by simpa [cellsBox, Value.cells] using hf 1 _ rfl)
  obtain ⟨now, e2, _, _⟩ := DataW.trod_int Try.underlying27 (x := x2) (by simpa [cellsU64, Value.cells] using hf 2 _ rfl)
  obtain ⟨body, e3, _, hm3⟩ := DataW.trod_string Try.underlying9 (x := x3) (by simpa [cellsStr, Value.cells] using hf 3 _ rfl)
  obtain ⟨B, n4, m4, ns, lost4, e4, hR4, hw4, hwf4⟩ := open_box (x := x4) (by simpa [cellsBox, Value.cells] using hf 4 _ rfl)
  simp only [List.cons.injEq, and_true] at e0 e1 e2 e3 e4
  obtain ⟨rfl, rfl, rfl, rfl, rfl⟩ := e0
  obtain ⟨rfl, rfl⟩ := e1
  obtain rfl := e2
  obtain rfl := e3
  obtain ⟨rfl, rfl⟩ := e4
  obtain ⟨rfl, _⟩ := Prod.mk.injEq .. ▸ hx
  have hq1 : (DataW.weights Try.prog 26 x1.1).all (· ≤ reachBytes) = true := by
    simp [DataW.weightsEach, DataW.weights, Try.underlying46] at hsz
    simp
    exact hsz.2.1
  have k1 := hw1 hq1
  have g1 := hR1.2.1
  have room1 : (n1 + 1) * 24 ≤ 140737488355328 := by unfold reachBytes at k1; omega
  have hq4 : (DataW.weights Try.prog 26 x4.1).all (· ≤ reachBytes) = true := by
    simp [DataW.weightsEach, DataW.weights, Try.underlying46] at hsz
    simp
    exact hsz.2.2.2.2
  have k4 := hw4 hq4
  have g4 := hR4.2.1
  have room4 : (n4 + 1) * 24 ≤ 140737488355328 := by unfold reachBytes at k4; omega
  refine (acts_any kind fr to size depth lost now lost4 A B n1 m1 n4 m4 ms ns body W hR1 hR4 room1 hm3).mono fun e W' ⟨he, hb⟩ => ?_
  subst he
  exact ⟨_, rfl, law_post laidOut (by kernel_rfl) Try.underlying4 (by kernel_rfl) rfl hW' rfl hb⟩

noncomputable def acts_world (os : Os) : World := World.holding Try.prog os ⟨#[], #[], []⟩
theorem acts_met (os : Os) : laidMet Try.prog Rows.portActsRow.laid ((acts_world os).forCall (fun _ _ => 0) ⟨#[], #[.agg #[.int .i64 0, .int .i64 0, .int .i64 0, .int .i64 0, .int .i64 0, .slice none 0 0, .int .i64 0, .int .u64 0, .string .empty, .slice none 0 0, .int .i64 0]], []⟩).memory :=
  laidMet_of_run' 8 (by kernel_rfl) (by kernel_rfl)
theorem acts_reads (os : Os) {H : Type} (enc : TypeId × Value → H) : ∃ places, DataW.whole enc Try.prog ((acts_world os).forCall (fun _ _ => 0) ⟨#[], #[.agg #[.int .i64 0, .int .i64 0, .int .i64 0, .int .i64 0, .int .i64 0, .slice none 0 0, .int .i64 0, .int .u64 0, .string .empty, .slice none 0 0, .int .i64 0]], []⟩).memory Try.f6.params.toList Rows.portActsSpec.vars false (#[.agg #[.int .i64 0, .int .i64 0, .int .i64 0, .int .i64 0, .int .i64 0, .slice none 0 0, .int .i64 0, .int .u64 0, .string .empty, .slice none 0 0, .int .i64 0]] : Array Value).toList 8 = some ([.agg [.agg [.lit (.int .i64 0), .lit (.int .i64 0), .lit (.int .i64 0), .lit (.int .i64 0), .lit (.int .i64 0)], .agg [.nil, .lit (.int .i64 0)], .lit (.int .u64 0), .lit (.string []), .agg [.nil, .lit (.int .i64 0)]]], [], places) :=
  ⟨[], by kernel_rfl⟩

set_option maxRecDepth 100000 in
theorem acts_lifted (os : Os) (started : os.Started) (H : Type) (enc : TypeId × Value → H) (F : Stop.Interp) :
    ReturnsInHanded {} Try.checked os 6 .any ((OpenSpec.ofChange Rows.portActsSpec).preRow enc Try.prog Try.f6 Rows.portActsRow.domain false Rows.portActsRow.laid) (((OpenSpec.ofChange Rows.portActsSpec).at F).post enc Try.prog Try.f6 false true false false) := by
  obtain ⟨places, hx⟩ := acts_reads os enc
  refine returnsInHanded_of_row (C := Try.checked) (s := OpenSpec.ofChange Rows.portActsSpec) own started (by kernel_rfl) Try.func6
    (witness_row_at (enc := enc) (C := Try.checked) false (acts_world os) #[.agg #[.int .i64 0, .int .i64 0, .int .i64 0, .int .i64 0, .int .i64 0, .slice none 0 0, .int .i64 0, .int .u64 0, .string .empty, .slice none 0 0, .int .i64 0]] rfl (by kernel_rfl) (by kernel_rfl) (by kernel_rfl)
      (OpenSpec.preRow_of_cond 8 hx (by kernel_rfl) (fun k hk => by cases hk) (by kernel_rfl) (acts_met os))) ?_
  intro W base args ds gs before hval hW _ _ hsz _ _ _
  exact acts_contract H enc W base args ds gs before hval hW hsz

theorem acts_said : Rows.PortActsSaid :=
  OpenClaim.holds_of_cond 6 Try.f6 rfl rfl rfl rfl rfl rfl rfl ⟨rfl, rfl, rfl, rfl, rfl⟩ rfl rfl rfl rfl rfl (by kernel_rfl) Try.func6 (by kernel_rfl)
    (of_decide_eq_true (by kernel_rfl)) (by unfold Func.isWrapper; first | (rw [if_pos (by decide +kernel)]; kernel_rfl) | (rw [if_neg (by decide +kernel)]; exact ⟨rfl, rfl⟩))
    (fun os started H enc _ F => by rw [OpenClaim.pre_eq_preRow]; exact acts_lifted os started H enc F)


end Go.Proofs.Ytepnfhjfjjdpkaa.Port
