/-
  The walks of port.Send: what it answers, and what waits then. Conditions: the list has room for one more (24 bytes a message).
-/
import Derived.Test.YtepnfhjfjjdpkaaPortRd
import Derived.Outline
namespace Go.Proofs.Ytepnfhjfjjdpkaa.Port
open Go.RowKit

theorem infoMsg : (Try.prog.info? 39).map (fun i => (i.zero, i.size, i.bytes)) = some (some (.agg #[.int .u64 0, .string .empty]), 2, 24) := by kernel_rfl

set_option maxHeartbeats 400000 in
theorem send_big (kind fr to size depth lost now : Int) (A : Option Addr) (n c : Nat) (body : ByteArray) (w : World) (hm : body.size ≤ maxLen) (h : size < (body.size : Int)) :
    Calls Try.prog 11 #[.agg #[.int .i64 kind, .int .i64 fr, .int .i64 to, .int .i64 size, .int .i64 depth], .agg #[.slice A n c, .int .i64 lost], .int .u64 now, .string body] w fun e w' =>
      e = .returned (.tuple #[.agg #[.slice A n c, .int .i64 lost], .int .i64 4]) ∧ Below w.heap.size w w' := by
  unfold maxLen at hm
  go_enter Try.func11, Try.ntmps11
  go_wp2
  exact bodyPost_ret (v := .tuple #[.agg #[.slice A n c, .int .i64 lost], .int .i64 4]) (by simp [results, Try.results11, go_sem]) rfl ⟨rfl, by repeat (first | exact Below.refl _ _ | refine Below.setCell ?_ (by simp <;> omega) _ | refine Below.alloc ?_ (by simp <;> omega) _)⟩

set_option maxHeartbeats 400000 in
theorem send_lost (kind fr to size depth lost now : Int) (A : Option Addr) (n c : Nat) (body : ByteArray) (w : World) (hm : body.size ≤ maxLen) (hn : n ≤ maxLen) (h : (body.size : Int) ≤ size) (hk : (kind == 1) = false) (hd : depth ≤ (n : Int)) :
    Calls Try.prog 11 #[.agg #[.int .i64 kind, .int .i64 fr, .int .i64 to, .int .i64 size, .int .i64 depth], .agg #[.slice A n c, .int .i64 lost], .int .u64 now, .string body] w fun e w' =>
      e = .returned (.tuple #[.agg #[.slice A n c, .int .i64 (wrap64 (lost + 1))], .int .i64 0]) ∧ Below w.heap.size w w' := by
  unfold maxLen at hm hn
  go_enter Try.func11, Try.ntmps11
  go_wp2
  exact bodyPost_ret (v := .tuple #[.agg #[.slice A n c, .int .i64 (wrap64 (lost + 1))], .int .i64 0]) (by simp [results, Try.results11, go_sem]) rfl ⟨rfl, by repeat (first | exact Below.refl _ _ | refine Below.setCell ?_ (by simp <;> omega) _ | refine Below.alloc ?_ (by simp <;> omega) _)⟩

set_option maxHeartbeats 400000 in
theorem send_sample (fr to size depth lost now : Int) (A : Option Addr) (n c : Nat) (body : ByteArray) (w : World) (hm : body.size ≤ maxLen) (h : (body.size : Int) ≤ size) :
    Calls Try.prog 11 #[.agg #[.int .i64 1, .int .i64 fr, .int .i64 to, .int .i64 size, .int .i64 depth], .agg #[.slice A n c, .int .i64 lost], .int .u64 now, .string body] w fun e w' =>
      ∃ A' c', e = .returned (.tuple #[.agg #[.slice A' 1 c', .int .i64 lost], .int .i64 0]) ∧ (∀ b, A' = some b → w.heap.size ≤ b.block) ∧ Rd w' A' 1 c' [(now, body)] ∧ Below w.heap.size w w' := by
  unfold maxLen at hm
  obtain ⟨i0, hi, hz0, hz1, hz2⟩ := info_parts infoMsg
  go_enter Try.func11, Try.ntmps11
  go_wp2_with (at_builtin; go_must (refine wpList_append_grows _ rfl (.tmp 37) (.tmp 41) _ rfl 39 i0 _ 2 24 Try.underlying24 hi hz0 hz1 hz2 rfl (by omega) none 0 0 [] rfl (fun _ => ⟨rfl, rfl⟩) rfl (fun b hb => by cases hb) ⟨w.heap.size + 1 + 1 + 1, 0, none⟩ 1 1 [.int .u64 now, .string body] rfl rfl ?c1 ?c2 (by omega) ?c3 (by omega) ?_))
  case c1 => exact two_new (by simp)
  case c2 => simp [Value.oneCell']
  case c3 => simp [maxLen]
  intro v1 w1 hown hg
  obtain ⟨g, cap, rfl, hge⟩ := own_form hown
  have hb := grown_below hg
  have hB := hide (((((below_new w _).alloc (by simp) _).alloc (by simp; omega) _).alloc (by simp; omega) _).trans (hb.mono (by simp; omega)))
  have hs := hb.size
  simp only [World.size_alloc] at hs
  have hO := hide hown
  clear hown hg
  obtain ⟨hc, hf⟩ := bcell hb
  have y0 : w1.cell? ⟨w.heap.size + 1, 0, none⟩ = some (.slice none 0 0) := (hc _ _ (by simp <;> omega)).trans (by simp [go_sem])
  have y1 : w1.cell? ⟨w.heap.size + 1, 1, none⟩ = some (.int .i64 lost) := (hc _ _ (by simp <;> omega)).trans (by simp [go_sem])
  have z0 : w1.cell? ⟨w.heap.size + 1 + 1, 0, none⟩ = some (.slice none 0 0) := (hc _ _ (by simp <;> omega)).trans (by simp [go_sem])
  have z1 : w1.cell? ⟨w.heap.size + 1 + 1, 1, none⟩ = some (.int .i64 0) := (hc _ _ (by simp <;> omega)).trans (by simp [go_sem])
  go_wp2
  exact bodyPost_ret (v := .tuple #[.agg #[.slice (some ⟨g, 0, none⟩) 1 cap, .int .i64 lost], .int .i64 0]) (by simp [results, Try.results11, go_sem, y0, y1, z0, z1]) rfl ⟨_, _, rfl, (fun b hb' => by injection hb' with hb'; subst hb'; show w.heap.size ≤ g; omega), (((Rd.of_own (ms := [(now, body)]) hO.out).setCell (by simp; omega) _).setCell (by simp; omega) _).setCell (by simp; omega) _, ((hB.out.setCell (by simp) _).setCell (by simp; omega) _).setCell (by simp; omega) _⟩

set_option maxHeartbeats 400000 in
theorem send_queue (kind fr to size depth lost now : Int) (A : Option Addr) (n c : Nat) (ms : List Msg) (body : ByteArray) (w : World) (hr : Rd w A n c ms) (hroom : (n + 1) * 24 ≤ 140737488355328) (hm : body.size ≤ maxLen) (h : (body.size : Int) ≤ size)
    (hk : (kind == 1) = false) (hd : (n : Int) < depth) :
    Calls Try.prog 11 #[.agg #[.int .i64 kind, .int .i64 fr, .int .i64 to, .int .i64 size, .int .i64 depth], .agg #[.slice A n c, .int .i64 lost], .int .u64 now, .string body] w fun e w' =>
      ∃ A' c', e = .returned (.tuple #[.agg #[.slice A' (n + 1) c', .int .i64 lost], .int .i64 0]) ∧ (∀ b, A' = some b → w.heap.size ≤ b.block) ∧ Rd w' A' (n + 1) c' (ms ++ [(now, body)]) ∧ Below w.heap.size w w' := by
  unfold maxLen at hm
  obtain ⟨i0, hi, hz0, hz1, hz2⟩ := info_parts infoMsg
  have hnc : n ≤ c := hr.2.1
  have hcm : c ≤ 9223372036854775807 := hr.2.2.1
  have hR := hide hr
  clear hr
  go_enter Try.func11, Try.ntmps11
  go_wp2_with (at_builtin; go_must (refine wpList_append_grows _ rfl (.tmp 37) (.tmp 41) _ rfl 39 i0 _ 2 24 Try.underlying24 hi hz0 hz1 hz2 rfl (by omega) A n n (cellsM ms) rfl ?c0 ?c4 ?c5 ⟨w.heap.size + 1 + 1 + 1, 0, none⟩ 1 1 [.int .u64 now, .string body] rfl rfl ?c1 ?c2 (by omega) ?c3 (by omega) ?_))
  case c0 => exact fun e => by have := hR.out.2.2.2.1 e; omega
  case c4 => rw [cellsM_length, hR.out.1]
  case c5 => exact fun b hb j u hu => (((((hR.out.alloc _).alloc _).alloc _).alloc _).2.2.2.2 b hb).2 j u hu
  case c1 => exact two_new (by simp)
  case c2 => simp [Value.oneCell']
  case c3 => unfold maxLen; omega
  intro v1 w1 hown hg
  obtain ⟨g, cap, rfl, hge⟩ := own_form hown
  have hb := grown_below hg
  have hB := hide (((((below_new w _).alloc (by simp) _).alloc (by simp; omega) _).alloc (by simp; omega) _).trans (hb.mono (by simp; omega)))
  have hs := hb.size
  simp only [World.size_alloc] at hs
  have hO := hide hown
  clear hown hg
  obtain ⟨hc, hf⟩ := bcell hb
  have y0 : w1.cell? ⟨w.heap.size + 1, 0, none⟩ = some (.slice A n c) := (hc _ _ (by simp <;> omega)).trans (by simp [go_sem])
  have y1 : w1.cell? ⟨w.heap.size + 1, 1, none⟩ = some (.int .i64 lost) := (hc _ _ (by simp <;> omega)).trans (by simp [go_sem])
  have z0 : w1.cell? ⟨w.heap.size + 1 + 1, 0, none⟩ = some (.slice none 0 0) := (hc _ _ (by simp <;> omega)).trans (by simp [go_sem])
  have z1 : w1.cell? ⟨w.heap.size + 1 + 1, 1, none⟩ = some (.int .i64 0) := (hc _ _ (by simp <;> omega)).trans (by simp [go_sem])
  go_wp2
  exact bodyPost_ret (v := .tuple #[.agg #[.slice (some ⟨g, 0, none⟩) (n + 1) cap, .int .i64 lost], .int .i64 0]) (by simp [results, Try.results11, go_sem, y0, y1, z0, z1]) rfl ⟨_, _, rfl, (fun b hb' => by injection hb' with hb'; subst hb'; show w.heap.size ≤ g; omega), (((Rd.of_own (ms := ms ++ [(now, body)]) (by rw [cellsM_append]; exact hO.out)).setCell (by simp; omega) _).setCell (by simp; omega) _).setCell (by simp; omega) _, ((hB.out.setCell (by simp) _).setCell (by simp; omega) _).setCell (by simp; omega) _⟩

end Go.Proofs.Ytepnfhjfjjdpkaa.Port
