/-
  What PortActs's calls answer, at every input; what it holds between them. Conditions: the list has room for one more (24 bytes a message).
-/
import Derived.Test.YtepnfhjfjjdpkaaPortRefTake
import Derived.Test.YtepnfhjfjjdpkaaPortRefSame
namespace Go.Proofs.Ytepnfhjfjjdpkaa.Port
open Go.RowKit

theorem rsend_any (kind fr to size depth lost now : Int) (A : Option Addr) (n c : Nat) (ms : List Msg) (body : ByteArray) (w : World) (hr : Rd w A n c ms) (hroom : (n + 1) * 24 ≤ 140737488355328) (hm : body.size ≤ maxLen) :
    Calls Try.prog 14 #[.agg #[.int .i64 kind, .int .i64 fr, .int .i64 to, .int .i64 size, .int .i64 depth], .agg #[.slice A n c, .int .i64 lost], .int .u64 now, .string body] w fun e w' =>
      ∃ A' n' c', e = .returned (.tuple #[.agg #[.slice A' n' c', .int .i64 (sendX kind size depth ms lost body)], .int .i64 (sendE size body)]) ∧
        Rd w' A' n' c' (sendL kind size depth ms now body) ∧ Below w.heap.size w w' := by
  have hn := hr.1
  by_cases h1 : size < (body.size : Int)
  · refine (rsend_big kind fr to size depth lost now A n c body w hm h1).mono ?_
    rintro e w' ⟨rfl, hb⟩
    refine ⟨A, n, c, ?_, ?_, hb⟩
    · unfold sendX sendE; rw [if_pos h1, if_pos h1]
    · unfold sendL; rw [if_pos h1]; exact hr.below hb
  by_cases h2 : kind = 1
  · subst h2
    refine (rsend_sample fr to size depth lost now A n c body w hm (by omega)).mono ?_
    rintro e w' ⟨A', c', rfl, hR, hb⟩
    refine ⟨A', 1, c', ?_, ?_, hb⟩
    · unfold sendX sendE; rw [if_neg h1, if_neg h1, if_pos rfl]
    · unfold sendL; rw [if_neg h1, if_pos rfl]; exact hR
  have hk : (kind == 1) = false := by rw [beq_eq_false_iff_ne]; exact h2
  by_cases h3 : (n : Int) < depth
  · refine (rsend_queue kind fr to size depth lost now A n c ms body w hr hroom hm (by omega) hk h3).mono ?_
    rintro e w' ⟨A', c', rfl, hR, hb⟩
    refine ⟨A', n + 1, c', ?_, ?_, hb⟩
    · unfold sendX sendE; rw [if_neg h1, if_neg h1, if_neg h2, if_pos (by omega)]
    · unfold sendL; rw [if_neg h1, if_neg h2, if_pos (by omega)]; exact hR
  · have hcm := hr.2.2.1
    have hnc := hr.2.1
    refine (rsend_lost kind fr to size depth lost now A n c body w hm (by omega) (by omega) hk (by omega)).mono ?_
    rintro e w' ⟨rfl, hb⟩
    refine ⟨A, n, c, ?_, ?_, hb⟩
    · unfold sendX sendE; rw [if_neg h1, if_neg h1, if_neg h2, if_neg (by omega)]
    · unfold sendL; rw [if_neg h1, if_neg h2, if_neg (by omega)]; exact hr.below hb

/-- what waits behind a Take, of a list that begins with m -/
def takeL (kind : Int) (m : Msg) (ms : List Msg) : List Msg := if kind = 1 then m :: ms else ms

theorem take_any (kind fr to size depth lost : Int) (A : Option Addr) (n c : Nat) (m : Msg) (ms : List Msg) (w : World) (h : Rd w A n c (m :: ms)) :
    Calls Try.prog 12 #[.agg #[.int .i64 kind, .int .i64 fr, .int .i64 to, .int .i64 size, .int .i64 depth], .agg #[.slice A n c, .int .i64 lost]] w fun e w' =>
      ∃ A' n' c', e = .returned (.tuple #[.agg #[.slice A' n' c', .int .i64 lost], .agg #[.int .u64 m.1, .string m.2], .int .i64 0]) ∧ Rd w' A' n' c' (takeL kind m ms) ∧ Below w.heap.size w w' := by
  by_cases h1 : kind = 1
  · subst h1
    refine (take_sample fr to size depth lost A n c m ms w h).mono ?_
    rintro e w' ⟨rfl, hb⟩
    exact ⟨A, n, c, rfl, by unfold takeL; rw [if_pos rfl]; exact h.below hb, hb⟩
  · refine (take_queue kind fr to size depth lost A n c m ms w h (by rw [beq_eq_false_iff_ne]; exact h1)).mono ?_
    rintro e w' ⟨A', rfl, hR, hb⟩
    exact ⟨A', _, _, rfl, by unfold takeL; rw [if_neg h1]; exact hR, hb⟩

theorem rtake_any (kind fr to size depth lost : Int) (A : Option Addr) (n c : Nat) (m : Msg) (ms : List Msg) (w : World) (h : Rd w A n c (m :: ms)) (hroom : n * 24 ≤ 140737488355328) :
    Calls Try.prog 15 #[.agg #[.int .i64 kind, .int .i64 fr, .int .i64 to, .int .i64 size, .int .i64 depth], .agg #[.slice A n c, .int .i64 lost]] w fun e w' =>
      ∃ A' n' c', e = .returned (.tuple #[.agg #[.slice A' n' c', .int .i64 lost], .agg #[.int .u64 m.1, .string m.2], .int .i64 0]) ∧ Rd w' A' n' c' (takeL kind m ms) ∧ Below w.heap.size w w' := by
  by_cases h1 : kind = 1
  · subst h1
    refine (rtake_sample fr to size depth lost A n c m ms w h).mono ?_
    rintro e w' ⟨rfl, hb⟩
    exact ⟨A, n, c, rfl, by unfold takeL; rw [if_pos rfl]; exact h.below hb, hb⟩
  · have hk : (kind == 1) = false := by rw [beq_eq_false_iff_ne]; exact h1
    by_cases hc : c = 1
    · subst hc
      obtain rfl : n = 1 := by have h1 := h.1; have h2 := h.2.1; simp at h1; omega
      have e0 : ms = [] := by have h1 := h.1; simpa using h1
      subst e0
      refine (rtake_queue1 kind fr to size depth lost A m w h hk).mono ?_
      rintro e w' ⟨A', c', rfl, hR, hb⟩
      exact ⟨A', _, _, rfl, by unfold takeL; rw [if_neg h1]; exact hR, hb⟩
    · refine (rtake_queue kind fr to size depth lost A n c m ms w h hroom hk hc).mono ?_
      rintro e w' ⟨A', c', rfl, hR, hb⟩
      exact ⟨A', _, _, rfl, by unfold takeL; rw [if_neg h1]; exact hR, hb⟩

/-- the channel, the box, the other box -/
def KB (g : Nat) (kind fr to size depth : Int) (A : Option Addr) (n c : Nat) (lost : Int) (B : Option Addr) (m d : Nat) (lost' : Int) (w : World) : Prop :=
  w.cell? ⟨g + 1, 0, none⟩ = some (.int .i64 kind) ∧ w.cell? ⟨g + 1, 1, none⟩ = some (.int .i64 fr) ∧ w.cell? ⟨g + 1, 2, none⟩ = some (.int .i64 to) ∧ w.cell? ⟨g + 1, 3, none⟩ = some (.int .i64 size) ∧ w.cell? ⟨g + 1, 4, none⟩ = some (.int .i64 depth) ∧
  w.cell? ⟨g + 1 + 1, 0, none⟩ = some (.slice A n c) ∧ w.cell? ⟨g + 1 + 1, 1, none⟩ = some (.int .i64 lost) ∧ w.cell? ⟨g + 1 + 1 + 1, 0, none⟩ = some (.slice B m d) ∧ w.cell? ⟨g + 1 + 1 + 1, 1, none⟩ = some (.int .i64 lost')
/-- two cells of a block -/
def P2 (h : Nat) (u v : Value) (w : World) : Prop := w.cell? ⟨h, 0, none⟩ = some u ∧ w.cell? ⟨h, 1, none⟩ = some v
theorem P2.below {h : Nat} {u v : Value} {w w' : World} (H : P2 h u v w) (hb : Below w.heap.size w w') : P2 h u v w' :=
  ⟨(hb.cell (World.block_lt_of_cell? _ _ H.1)).trans H.1, (hb.cell (World.block_lt_of_cell? _ _ H.2)).trans H.2⟩
theorem P2.lt {h : Nat} {u v : Value} {w : World} (H : P2 h u v w) : h < w.heap.size := World.block_lt_of_cell? _ _ H.1
theorem P2.new (w : World) (u v : Value) (t : TypeId) : P2 w.heap.size u v (w.alloc (.cells #[u, v] t)) := ⟨by simp [go_sem], by simp [go_sem]⟩
section
variable {g : Nat} {kind fr to size depth : Int} {A : Option Addr} {n c : Nat} {lost : Int} {B : Option Addr} {m d : Nat} {lost' : Int} {w w' : World}
theorem KB.below (H : KB g kind fr to size depth A n c lost B m d lost' w) (hb : Below w.heap.size w w') : KB g kind fr to size depth A n c lost B m d lost' w' := by
  have step : ∀ {a : Addr} {v : Value}, w.cell? a = some v → w'.cell? a = some v := fun h => (hb.cell (World.block_lt_of_cell? _ _ h)).trans h
  obtain ⟨h1, h2, h3, h4, h5, h6, h7, h8, h9⟩ := H
  exact ⟨step h1, step h2, step h3, step h4, step h5, step h6, step h7, step h8, step h9⟩
theorem KB.lt (H : KB g kind fr to size depth A n c lost B m d lost' w) : g + 1 + 1 + 1 < w.heap.size := World.block_lt_of_cell? _ _ H.2.2.2.2.2.2.2.1
end

/-- what the last statement reads, and what its calls keep -/
def KF (w0 : World) (g : Nat) (kind fr to size depth : Int) (A : Option Addr) (n c : Nat) (lost : Int) (B : Option Addr) (m d : Nat) (lost' : Int) (h1 h2 : Nat) (t : Int) (s : ByteArray) (ms ns : List Msg) (w : World) : Prop :=
  KB g kind fr to size depth A n c lost B m d lost' w ∧ P2 h1 (.int .u64 t) (.string s) w ∧ P2 h2 (.int .u64 t) (.string s) w ∧ Rd w A n c ms ∧ Rd w B m d ns ∧ Below w0.heap.size w0 w ∧ w0.heap.size ≤ w.heap.size
theorem KF.below {w0 : World} {g : Nat} {kind fr to size depth : Int} {A : Option Addr} {n c : Nat} {lost : Int} {B : Option Addr} {m d : Nat} {lost' : Int} {h1 h2 : Nat} {t : Int} {s : ByteArray} {ms ns : List Msg} {w w' : World}
    (H : KF w0 g kind fr to size depth A n c lost B m d lost' h1 h2 t s ms ns w) (hb : Below w.heap.size w w') : KF w0 g kind fr to size depth A n c lost B m d lost' h1 h2 t s ms ns w' := by
  obtain ⟨a1, a2, a3, a4, a5, a6, a7⟩ := H
  exact ⟨a1.below hb, a2.below hb, a3.below hb, a4.below hb, a5.below hb, a6.trans (hb.mono a7), Nat.le_trans a7 hb.size⟩

end Go.Proofs.Ytepnfhjfjjdpkaa.Port
