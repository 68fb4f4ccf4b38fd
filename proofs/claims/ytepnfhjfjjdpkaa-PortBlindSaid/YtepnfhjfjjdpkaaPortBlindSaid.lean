/-
  PortBlind: what Send answers hangs on the length of the body alone, whatever waits. Conditions: none.
-/
import Derived.Test.YtepnfhjfjjdpkaaPortBlind
namespace Go.Proofs.Ytepnfhjfjjdpkaa.Port
open Go.ChangeShapes Go.WideShapes Go.ChangeAt Go.RowKit Go.Joins

theorem cellsBlind : Try.prog.cellsOf 29 = 12 := by kernel_rfl

theorem blind_contract (H : Type) (enc : TypeId × Value → H) (W : World) (base : Nat) (args : Array Value) (ds gs : List (DataW H)) (before : List MemPlace)
    (hval : ∀ (j : Nat) t v, Try.f3.params[j]? = some t → args[j]? = some v → Value.okWide Try.prog W .any base t v)
    (hW : DataW.Whole enc Try.prog Try.f3.params.toList Rows.portBlindSpec.vars false W args.toList ds gs before)
    (hsz : (DataW.weightsEach Try.prog (Try.f3.params.toList ++ (OpenSpec.ofChange Rows.portBlindSpec).bare.plain.varTypes Try.prog) (ds ++ gs)).all (· ≤ reachBytes) = true) :
    Calls Try.prog 3 args W fun e W' => ∃ v, e = .returned v ∧ Rows.portBlindSpec.post enc Try.prog Try.f3 false true false false W args v W' := by
  have hW' := hW
  obtain ⟨p, q, hA0, hV, rfl, hfz, hnd⟩ := hW
  have hA : DataW.TrodAll enc Try.prog W 0 (fun _ => true) true Try.f3.params.toList args.toList ds p := hA0
  rw [Try.params3] at hA hval hsz
  obtain ⟨v0, d0, rfl, rfl, h0⟩ := trodAll_one hA
  obtain ⟨rfl, rfl⟩ := trodVars_none hV
  obtain ⟨cs, rfl, hsize⟩ := okWide_struct Try.underlying29 (hval 0 29 v0 rfl rfl)
  obtain ⟨fuel, hf0⟩ := h0
  obtain ⟨xs, n, rfl, hx, hlen, hxl, hf⟩ := DataW.trod_struct Try.underlying29 hf0
  obtain ⟨c0, c1, c2, c3, c4, c5, c6, c7, c8, c9, c10, c11, hcs⟩ := list12 cs.toList (by rw [Array.length_toList, hsize, cellsBlind])
  obtain ⟨x0, x1, x2, x3, x4, x5, rfl⟩ := list6 xs hxl
  have hcs' : cs = #[c0, c1, c2, c3, c4, c5, c6, c7, c8, c9, c10, c11] := by rw [← Array.toArray_toList (xs := cs), hcs]
  subst hcs'
  obtain ⟨kind, fr, to, size, depth, e0⟩ := open_chan (x := x0) (by simpa [cellsChan, Value.cells] using hf 0 _ rfl)
  obtain ⟨A, n1, m1, ms, lost, e1, hR1, hw1, _⟩ := open_box (x := x1) (by simpa [cellsBox, Value.cells] using hf 1 _ rfl)
  obtain ⟨B, n2, m2, ns, lost', e2, hR2, hw2, _⟩ := open_box (x := x2) (by simpa [cellsBox, Value.cells] using hf 2 _ rfl)
  obtain ⟨now, e3, _, _⟩ := DataW.trod_int Try.underlying27 (x := x3) (by simpa [cellsU64, Value.cells] using hf 3 _ rfl)
  obtain ⟨then_, e4, _, _⟩ := DataW.trod_int Try.underlying27 (x := x4) (by simpa [cellsU64, Value.cells] using hf 4 _ rfl)
  obtain ⟨body, e5, _, hm⟩ := DataW.trod_string Try.underlying9 (x := x5) (by simpa [cellsStr, Value.cells] using hf 5 _ rfl)
  simp only [List.cons.injEq, and_true] at e0 e1 e2 e3 e4 e5
  obtain ⟨rfl, rfl, rfl, rfl, rfl⟩ := e0
  obtain ⟨rfl, rfl⟩ := e1
  obtain ⟨rfl, rfl⟩ := e2
  obtain rfl := e3
  obtain rfl := e4
  obtain rfl := e5
  obtain ⟨rfl, _⟩ := Prod.mk.injEq .. ▸ hx
  have hws : (DataW.weights Try.prog 26 x1.1).all (· ≤ reachBytes) = true ∧ (DataW.weights Try.prog 26 x2.1).all (· ≤ reachBytes) = true := by
    simp [DataW.weightsEach, DataW.weights, Try.underlying29] at hsz
    simp
    exact ⟨hsz.2.1, hsz.2.2.1⟩
  have k1 := hw1 hws.1
  have k2 := hw2 hws.2
  have g1 := hR1.2.1
  have g2 := hR2.2.1
  refine (blind_walk kind fr to size depth lost lost' now then_ A B n1 m1 n2 m2 ms ns body W hR1 hR2 (by unfold reachBytes at k1; omega) (by unfold reachBytes at k2; omega) hm).mono fun e W' ⟨he, hb⟩ => ?_
  subst he
  exact ⟨_, rfl, law_post laidOut (by kernel_rfl) Try.underlying4 (by kernel_rfl) rfl hW' rfl hb⟩

noncomputable def blind_world (os : Os) : World := World.holding Try.prog os ⟨#[], #[], []⟩
theorem blind_met (os : Os) : laidMet Try.prog Rows.portBlindRow.laid ((blind_world os).forCall (fun _ _ => 0) ⟨#[], #[.agg #[.int .i64 0, .int .i64 0, .int .i64 0, .int .i64 0, .int .i64 0, .slice none 0 0, .int .i64 0, .slice none 0 0, .int .i64 0, .int .u64 0, .int .u64 0, .string .empty]], []⟩).memory :=
  laidMet_of_run' 8 (by kernel_rfl) (by kernel_rfl)
theorem blind_reads (os : Os) {H : Type} (enc : TypeId × Value → H) : ∃ places, DataW.whole enc Try.prog ((blind_world os).forCall (fun _ _ => 0) ⟨#[], #[.agg #[.int .i64 0, .int .i64 0, .int .i64 0, .int .i64 0, .int .i64 0, .slice none 0 0, .int .i64 0, .slice none 0 0, .int .i64 0, .int .u64 0, .int .u64 0, .string .empty]], []⟩).memory Try.f3.params.toList Rows.portBlindSpec.vars false (#[.agg #[.int .i64 0, .int .i64 0, .int .i64 0, .int .i64 0, .int .i64 0, .slice none 0 0, .int .i64 0, .slice none 0 0, .int .i64 0, .int .u64 0, .int .u64 0, .string .empty]] : Array Value).toList 8 = some ([.agg [.agg [.lit (.int .i64 0), .lit (.int .i64 0), .lit (.int .i64 0), .lit (.int .i64 0), .lit (.int .i64 0)], .agg [.nil, .lit (.int .i64 0)], .agg [.nil, .lit (.int .i64 0)], .lit (.int .u64 0), .lit (.int .u64 0), .lit (.string [])]], [], places) :=
  ⟨[], by kernel_rfl⟩

set_option maxRecDepth 100000 in
theorem blind_lifted (os : Os) (started : os.Started) (H : Type) (enc : TypeId × Value → H) (F : Stop.Interp) :
    ReturnsInHanded {} Try.checked os 3 .any ((OpenSpec.ofChange Rows.portBlindSpec).preRow enc Try.prog Try.f3 Rows.portBlindRow.domain false Rows.portBlindRow.laid) (((OpenSpec.ofChange Rows.portBlindSpec).at F).post enc Try.prog Try.f3 false true false false) := by
  obtain ⟨places, hx⟩ := blind_reads os enc
  refine returnsInHanded_of_row (C := Try.checked) (s := OpenSpec.ofChange Rows.portBlindSpec) own started (by kernel_rfl) Try.func3
    (witness_row_at (enc := enc) (C := Try.checked) false (blind_world os) #[.agg #[.int .i64 0, .int .i64 0, .int .i64 0, .int .i64 0, .int .i64 0, .slice none 0 0, .int .i64 0, .slice none 0 0, .int .i64 0, .int .u64 0, .int .u64 0, .string .empty]] rfl (by kernel_rfl) (by kernel_rfl) (by kernel_rfl)
      (OpenSpec.preRow_of_cond 8 hx (by kernel_rfl) (fun k hk => by cases hk) (by kernel_rfl) (blind_met os))) ?_
  intro W base args ds gs before hval hW _ _ hsz _ _ _
  exact blind_contract H enc W base args ds gs before hval hW hsz

theorem blind_said : Rows.PortBlindSaid :=
  OpenClaim.holds_of_cond 3 Try.f3 rfl rfl rfl rfl rfl rfl rfl ⟨rfl, rfl, rfl, rfl, rfl⟩ rfl rfl rfl rfl rfl (by kernel_rfl) Try.func3 (by kernel_rfl)
    (of_decide_eq_true (by kernel_rfl)) (by unfold Func.isWrapper; first | (rw [if_pos (by decide +kernel)]; kernel_rfl) | (rw [if_neg (by decide +kernel)]; exact ⟨rfl, rfl⟩))
    (fun os started H enc _ F => by rw [OpenClaim.pre_eq_preRow]; exact blind_lifted os started H enc F)


end Go.Proofs.Ytepnfhjfjjdpkaa.Port
