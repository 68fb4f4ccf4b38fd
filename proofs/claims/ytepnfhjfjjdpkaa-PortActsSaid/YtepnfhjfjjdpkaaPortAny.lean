/-
  port.Send and port.Take at every input, by the document's own words on lists. Conditions: the list has room for one more (24 bytes a message).
-/
import Derived.Test.YtepnfhjfjjdpkaaPortSend
import Derived.Test.YtepnfhjfjjdpkaaPortTake
namespace Go.Proofs.Ytepnfhjfjjdpkaa.Port
open Go.RowKit

/-- what Send answers -/
def sendE (size : Int) (body : ByteArray) : Int := if size < (body.size : Int) then 4 else 0
/-- what waits behind a Send -/
def sendL (kind size depth : Int) (ms : List Msg) (now : Int) (body : ByteArray) : List Msg :=
  if size < (body.size : Int) then ms else if kind = 1 then [(now, body)] else if (ms.length : Int) < depth then ms ++ [(now, body)] else ms
/-- how many are lost behind a Send -/
def sendX (kind size depth : Int) (ms : List Msg) (lost : Int) (body : ByteArray) : Int :=
  if size < (body.size : Int) then lost else if kind = 1 then lost else if (ms.length : Int) < depth then lost else wrap64 (lost + 1)

theorem send_any (kind fr to size depth lost now : Int) (A : Option Addr) (n c : Nat) (ms : List Msg) (body : ByteArray) (w : World) (hr : Rd w A n c ms) (hroom : (n + 1) * 24 ≤ 140737488355328) (hm : body.size ≤ maxLen) :
    Calls Try.prog 11 #[.agg #[.int .i64 kind, .int .i64 fr, .int .i64 to, .int .i64 size, .int .i64 depth], .agg #[.slice A n c, .int .i64 lost], .int .u64 now, .string body] w fun e w' =>
      ∃ A' n' c', e = .returned (.tuple #[.agg #[.slice A' n' c', .int .i64 (sendX kind size depth ms lost body)], .int .i64 (sendE size body)]) ∧
        (A' = A ∨ ∀ b, A' = some b → w.heap.size ≤ b.block) ∧ Rd w' A' n' c' (sendL kind size depth ms now body) ∧ Below w.heap.size w w' := by
  have hn := hr.1
  by_cases h1 : size < (body.size : Int)
  · refine (send_big kind fr to size depth lost now A n c body w hm h1).mono ?_
    rintro e w' ⟨rfl, hb⟩
    refine ⟨A, n, c, ?_, .inl rfl, ?_, hb⟩
    · unfold sendX sendE; rw [if_pos h1, if_pos h1]
    · unfold sendL; rw [if_pos h1]; exact hr.below hb
  by_cases h2 : kind = 1
  · subst h2
    refine (send_sample fr to size depth lost now A n c body w hm (by omega)).mono ?_
    rintro e w' ⟨A', c', rfl, hf, hR, hb⟩
    refine ⟨A', 1, c', ?_, .inr hf, ?_, hb⟩
    · unfold sendX sendE; rw [if_neg h1, if_neg h1, if_pos rfl]
    · unfold sendL; rw [if_neg h1, if_pos rfl]; exact hR
  have hk : (kind == 1) = false := by rw [beq_eq_false_iff_ne]; exact h2
  by_cases h3 : (n : Int) < depth
  · refine (send_queue kind fr to size depth lost now A n c ms body w hr hroom hm (by omega) hk h3).mono ?_
    rintro e w' ⟨A', c', rfl, hf, hR, hb⟩
    refine ⟨A', n + 1, c', ?_, .inr hf, ?_, hb⟩
    · unfold sendX sendE; rw [if_neg h1, if_neg h1, if_neg h2, if_pos (by omega)]
    · unfold sendL; rw [if_neg h1, if_neg h2, if_pos (by omega)]; exact hR
  · have hcm := hr.2.2.1
    have hnc := hr.2.1
    refine (send_lost kind fr to size depth lost now A n c body w hm (by omega) (by omega) hk (by omega)).mono ?_
    rintro e w' ⟨rfl, hb⟩
    refine ⟨A, n, c, ?_, .inl rfl, ?_, hb⟩
    · unfold sendX sendE; rw [if_neg h1, if_neg h1, if_neg h2, if_neg (by omega)]
    · unfold sendL; rw [if_neg h1, if_neg h2, if_neg (by omega)]; exact hr.below hb

end Go.Proofs.Ytepnfhjfjjdpkaa.Port
