/-
  PortBlind: what Send answers hangs on the length of the body alone, whatever waits. Conditions: none.
-/
import Derived.Test.YtepnfhjfjjdpkaaPortAny
import Derived.Test.YtepnfhjfjjdpkaaPortShown
import Derived.Test.YtepnfhjfjjdpkaaPortArgs
namespace Go.Proofs.Ytepnfhjfjjdpkaa.Port
open Go.ChangeShapes Go.WideShapes Go.ChangeAt Go.RowKit Go.Joins

set_option maxHeartbeats 800000 in
theorem blind_walk (kind fr to size depth lost lost' now then_ : Int) (A B : Option Addr) (n c m d : Nat) (ms ns : List Msg) (body : ByteArray) (w : World) (hA : Rd w A n c ms) (hB : Rd w B m d ns) (hra : (n + 1) * 24 ≤ 140737488355328) (hrb : (m + 1) * 24 ≤ 140737488355328) (hm : body.size ≤ maxLen) :
    Calls Try.prog 3 #[.agg #[.int .i64 kind, .int .i64 fr, .int .i64 to, .int .i64 size, .int .i64 depth, .slice A n c, .int .i64 lost, .slice B m d, .int .i64 lost', .int .u64 now, .int .u64 then_, .string body]] w fun e w' =>
      e = .returned (.bool true) ∧ Below w.heap.size w w' := by
  have hA' := hide hA
  have hB' := hide hB
  clear hA hB
  by_cases hbig : size < (body.size : Int)
  all_goals
    have hm' : body.size ≤ 9223372036854775807 := hm
    go_enter Try.func3, Try.ntmps3
    go_wp2_with fail
    refine (shown_any _).mono ?_
    rintro e w1 ⟨rfl, hb1⟩
    have hK1 := hide (show Below w.heap.size w w1 from ((((below_new w _).alloc (by simp) _).alloc (by simp <;> omega) _).alloc (by simp <;> omega) _).trans (hb1.mono (by simp <;> omega)))
    have hs1 := hb1.size
    simp only [World.size_alloc] at hs1
    obtain ⟨hc1, hf1⟩ := bcell hb1
    have o1 : w.heap.size + 1 < w1.heap.size := by omega
    have o2 : w.heap.size + 1 + 1 < w1.heap.size := by omega
    have o3 : w.heap.size + 1 + 1 + 1 < w1.heap.size := by omega
    clear hb1
    go_wp2_with fail
    refine (send_any kind fr to size depth lost now A n c ms body _ (by exact hA'.out.below hK1.out) hra hm).mono ?_
    rintro e w2 ⟨A2, n2, c2, rfl, -, -, hb2⟩
    have hK2 := hide (hK1.out.trans (hb2.mono hK1.out.size))
    have hs2 := hb2.size
    obtain ⟨hc2, hf2⟩ := bcell hb2
    have o5 : w.heap.size + 1 < w2.heap.size := by omega
    have o6 : w.heap.size + 1 + 1 < w2.heap.size := by omega
    have o7 : w.heap.size + 1 + 1 + 1 < w2.heap.size := by omega
    have hK3 := hide (hK2.out.alloc (by omega) (.cells #[.slice A2 n2 c2, .int .i64 (sendX kind size depth ms lost body)] 26))
    clear hb2
    go_wp2_with fail
    refine (send_any kind fr to size depth lost' then_ B m d ns body _ (by exact hB'.out.below hK3.out) hrb hm).mono ?_
    rintro e w3 ⟨A3, n3, c3, rfl, -, -, hb3⟩
    have hs3 := hb3.size
    simp only [World.size_alloc] at hs3
    have hK4 := hide ((hK3.out.trans (hb3.mono (by simp only [World.size_alloc]; omega))).alloc (by omega) (.cells #[.slice A3 n3 c3, .int .i64 (sendX kind size depth ns lost' body)] 26))
    obtain ⟨hc3, hf3⟩ := bcell hb3
    have o8 : w.heap.size + 1 < w3.heap.size := by omega
    have o9 : w2.heap.size < w3.heap.size := by omega
    have o4 : w.heap.size < w2.heap.size := by omega
    have l3 : w3.cell? ⟨w.heap.size + 1, 3, none⟩ = some (.int .i64 size) := (hc3 _ _ (by simp <;> omega)).trans (by go_simp)
    clear hb3
  · have hE : sendE size body = 4 := by unfold sendE; rw [if_pos hbig]
    have hd : decide ((body.size : Int) ≤ size) = false := by simp; omega
    go_wp2
    go_ret
    exact ⟨ret_bool (by simp <;> omega), hK4.out⟩
  · have hE : sendE size body = 0 := by unfold sendE; rw [if_neg (by omega)]
    go_wp2
    go_ret
    exact ⟨rfl, hK4.out⟩

end Go.Proofs.Ytepnfhjfjjdpkaa.Port
