/-
  The walk of strings.SplitSeq's iterator at a blank: each word in turn is handed to yield; between two rounds the box of s holds what is left. Conditions: none.
-/
import Derived.RangeFuncNested
import Derived.RangeFuncBound
import Derived.RangeFuncCalls
import Derived.RangeFuncLeaves
import Derived.RangeFuncBox
import Derived.Shelf.Abstract
import Derived.Shelf.RegionOpen
import Derived.WalkKit
import Derived.OwnWalkIn
import Derived.TacticsInMore
import Derived.LoopNIn
import Derived.LoopIn
import Derived.Test.YtijjamiidpikdaaDoorAsmIndex
namespace Go.Proofs.YtijjamiidpikdaaDoor.Asm
open Go.RowKit Go.Shelf
attribute [local go_sem] Oper.semAt_some

theorem splitW_len (l : List UInt8) : (splitW l).length ≤ l.length + 1 := by
  induction l with
  | nil => simp [splitW]
  | cons c t ih =>
    unfold splitW
    split
    · simp; omega
    · split
      · simp
      · rename_i h
        rw [h] at ih
        simp at ih ⊢
        omega
/-- what the box of s holds, in bytes -/
def boxLen (B : Nat) (w : World) : Nat := match w.cell? ⟨B, 0, none⟩ with
  | some (.string s) => s.size
  | _ => 0
theorem boxLen_of {B : Nat} {w : World} {l : List UInt8} (h : w.cell? ⟨B, 0, none⟩ = some (.string ⟨l.toArray⟩)) : boxLen B w = l.length := by
  unfold boxLen
  rw [h]
  rfl

set_option maxHeartbeats 400000 in
theorem words_any (l : List UInt8) (w : World) :
    Calls Tryd.prog 28 #[.string ⟨l.toArray⟩] w fun e w' => e = .returned (.func (.func 46) #[] #[.pointer (some ⟨w.heap.size + 1, 0, none⟩), .pointer (some ⟨w.heap.size, 0, none⟩), .pointer (some ⟨w.heap.size + 2, 0, none⟩)]) ∧
      w' = ((w.alloc (.cells #[.string ⟨l.toArray⟩] 9)).alloc (.cells #[.string ⟨#[32]⟩] 9)).alloc (.cells #[.int .i64 0] 3) := by
  go_enter Tryd.func28, Tryd.ntmps28
  go_wp2
  go_ret
  exact ⟨rfl, rfl⟩

set_option maxRecDepth 100000 in
set_option maxHeartbeats 2000000 in
theorem seq_in (n L Bs Bp Bv : Nat) (l : List UInt8) (hl : l.length ≤ maxLen) (J : List UInt8 → List (List UInt8) → World → Prop)
    (hJ1 : ∀ rest pre W, J rest pre W → W.cell? ⟨Bs, 0, none⟩ = some (.string ⟨rest.toArray⟩) ∧ W.frozen? ⟨Bs, 0, none⟩ = false ∧ W.cell? ⟨Bp, 0, none⟩ = some (.string ⟨#[32]⟩) ∧ W.cell? ⟨Bv, 0, none⟩ = some (.int .i64 0))
    (hJ2 : ∀ rest pre W rest', J rest pre W → J rest' pre (W.setCell ⟨Bs, 0, none⟩ (.string ⟨rest'.toArray⟩)))
    (hY : ∀ rest pre x W, J rest pre W → pre.length ≤ l.length → x.length ≤ maxLen → YieldAt Fence.wide (n - 1) Tryd.prog L #[.string ⟨x.toArray⟩] W fun e W' => e = .returned (.bool true) ∧ J rest (pre ++ [x]) W')
    (W : World) (h0 : J l [] W) :
    CallsIn Fence.wide n Tryd.prog 46 #[.func (.yield L) #[] #[], .pointer (some ⟨Bp, 0, none⟩), .pointer (some ⟨Bs, 0, none⟩), .pointer (some ⟨Bv, 0, none⟩)] W fun e W' => (∃ v, e = .returned v) ∧ ∃ rest, J rest (splitW l) W' := by
  have hl' := hide hl
  clear hl
  have HJ1 := hide hJ1
  have HJ2 := hide hJ2
  have HY := hide hY
  obtain ⟨a1, a2, a3, a4⟩ := hJ1 _ _ _ h0
  clear hJ1 hJ2 hY
  have H0 := hide h0
  clear h0
  refine callsIn_of_wp Tryd.func46 rfl trivial ?_ rfl
  simp only [Tryd.ntmps46, List.size_toArray, List.length_cons, List.length_nil, Nat.reduceAdd, Nat.reduceSub, Array.replicate_succ, Array.replicate_zero, List.push_toArray, List.append_toArray, List.nil_append, List.cons_append]
  gi_wp2
  gi_loopw [7] (fun _ wr => ∃ (pre : List (List UInt8)) (rest : List UInt8), Hid (splitW l = pre ++ splitW rest) ∧ rest.length ≤ l.length ∧ pre.length + rest.length ≤ l.length ∧ Hid (J rest pre wr)) (fun _ wr => boxLen Bs wr)
  case atStart => exact ⟨[], l, rfl, Nat.le_refl _, by simp, H0⟩
  case round =>
    obtain ⟨pre, rest, hS, hrl, hpl, hJ⟩ := hrel
    obtain ⟨c1, c2, c3, c4⟩ := HJ1.out _ _ _ hJ.out
    clear a1 a2 a3 a4
    have hm := hl'.out
    unfold maxLen at hm
    rcases first_byte 32 rest with h | ⟨x, t, rfl, h⟩
    · have hi := hide (idx_none 32 rest h)
      have hx := hide (splitW_last rest h)
      clear h
      obtain ⟨fn, tmps, assign, body, hy, hR⟩ := HY.out rest pre rest wr hJ.out (by omega) (by unfold maxLen; omega)
      have HR := hide hR
      clear hR
      gi_wp2_with fail
      refine ⟨trivial, (fun h => (by cases h)), ?_⟩
      refine (callsIn_wide.2 (sindex_any rest 32 _)).mono ?_
      rintro e w' ⟨rfl, rfl⟩
      rw [hi.out]
      gi_wp2_with fail
      refine ⟨(fun h => (by cases h)), ?_⟩
      refine HR.out.mono ?_
      rintro e W3 ⟨rfl, hJ3⟩
      have HJ3 := hide hJ3
      clear hJ3
      gi_wp2
      go_end0
      exact ⟨⟨_, rfl⟩, rest, by rw [hS.out, hx.out]; exact HJ3.out⟩
    · have hi := hide (idx_word 32 x t h)
      have hx := hide (splitW_word x t h)
      clear h
      simp only [List.length_append, List.length_cons] at hrl hpl
      obtain ⟨fn, tmps, assign, body, hy, hR⟩ := HY.out _ pre x wr hJ.out (by omega) (by unfold maxLen; omega)
      have HR := hide hR
      clear hR
      have q1 : (0 : Int) ≤ (x.length : Int) := Int.natCast_nonneg _
      have q2 : (x.length : Int) ≤ (x.length : Int) + ((t.length : Int) + 1) := by omega
      have q3 : (x.length : Int) + 1 ≤ (x.length : Int) + ((t.length : Int) + 1) := by omega
      have Hy := hide hy
      clear hy
      gi_wp2_with fail
      refine ⟨trivial, (fun h => (by cases h)), ?_⟩
      refine (callsIn_wide.2 (sindex_any (x ++ 32 :: t) 32 _)).mono ?_
      rintro e w' ⟨rfl, rfl⟩
      rw [hi.out]
      gi_wp2_with fail
      rw [ext_front]
      gi_wp2_with fail
      rw [Hy.out]
      refine ⟨(fun h => (by cases h)), ?_⟩
      refine HR.out.mono ?_
      rintro e W3 ⟨rfl, hJ3⟩
      have hb1 := hide (boxLen_of c1)
      clear Hy HR c1 c2 c3 c4 hJ
      obtain ⟨c1, c2, c3, c4⟩ := HJ1.out _ _ _ hJ3
      have HJ3 := hide hJ3
      clear hJ3
      gi_wp2_with fail
      rw [ext_back]
      have hJ4 := HJ2.out _ _ _ t HJ3.out
      refine ⟨⟨pre ++ [x], t, hide (by rw [hS.out, hx.out]; simp), by omega, by simp; omega, hJ4⟩, ?_⟩
      rw [boxLen_of (HJ1.out _ _ _ hJ4).1, hb1.out]
      simp
      omega

end Go.Proofs.YtijjamiidpikdaaDoor.Asm
