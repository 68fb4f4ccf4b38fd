/-
  The list of acts that PortLast and PortOrder are given: its cells; kept over calls. Conditions: none.
-/
import Derived.Test.YtepnfhjfjjdpkaaPortRd
namespace Go.Proofs.Ytepnfhjfjjdpkaa.Port
open Go.RowKit

/-- the slice '.slice L n c' holds n acts -/
def Acts (w : World) (L : Option Addr) (n c : Nat) (f : Nat → Bool × Int × ByteArray) : Prop :=
  n ≤ c ∧ c ≤ maxLen ∧ (0 < n → ∃ b o, L = some ⟨b, o, none⟩ ∧ b < w.heap.size ∧ ∀ k, k < n → w.cell? ⟨b, o + k * 3, none⟩ = some (.bool (f k).1) ∧ w.cell? ⟨b, o + k * 3 + 1, none⟩ = some (.int .u64 (f k).2.1) ∧ w.cell? ⟨b, o + k * 3 + 2, none⟩ = some (.string (f k).2.2) ∧ (f k).2.2.size ≤ maxLen)
theorem Acts.below {w w' : World} {L : Option Addr} {n c : Nat} {f : Nat → Bool × Int × ByteArray} (h : Acts w L n c f) (hb : Below w.heap.size w w') : Acts w' L n c f := by
  obtain ⟨h1, h2, h3⟩ := h
  refine ⟨h1, h2, fun hn => ?_⟩
  obtain ⟨b, o, e, hlt, hc⟩ := h3 hn
  refine ⟨b, o, e, Nat.lt_of_lt_of_le hlt hb.size, fun k hk => ?_⟩
  obtain ⟨c0, c1, c2, c3⟩ := hc k hk
  exact ⟨(hb.cell hlt).trans c0, (hb.cell hlt).trans c1, (hb.cell hlt).trans c2, c3⟩
theorem Acts.at_ {w : World} {L : Option Addr} {n c k : Nat} {f : Nat → Bool × Int × ByteArray} (h : Acts w L n c f) (hk : k < n) :
    ∃ b o, L = some ⟨b, o, none⟩ ∧ b < w.heap.size ∧ w.cell? ⟨b, o + k * 3, none⟩ = some (.bool (f k).1) ∧ w.cell? ⟨b, o + k * 3 + 1, none⟩ = some (.int .u64 (f k).2.1) ∧ w.cell? ⟨b, o + k * 3 + 2, none⟩ = some (.string (f k).2.2) ∧ (f k).2.2.size ≤ maxLen := by
  obtain ⟨_, _, h3⟩ := h
  obtain ⟨b, o, e, hlt, hc⟩ := h3 (by omega)
  exact ⟨b, o, e, hlt, hc k hk⟩

/-- what PortLast holds between its rounds: the channel, the box, the last message -/
def LS (g : Nat) (size : Int) (A : Option Addr) (n c : Nat) (t : Int) (s : ByteArray) (w : World) : Prop :=
  w.cell? ⟨g, 0, none⟩ = some (.int .i64 1) ∧ w.cell? ⟨g, 1, none⟩ = some (.int .i64 0) ∧ w.cell? ⟨g, 2, none⟩ = some (.int .i64 1) ∧ w.cell? ⟨g, 3, none⟩ = some (.int .i64 size) ∧ w.cell? ⟨g, 4, none⟩ = some (.int .i64 1) ∧
  w.cell? ⟨g + 1, 0, none⟩ = some (.slice A n c) ∧ w.cell? ⟨g + 1, 1, none⟩ = some (.int .i64 0) ∧ w.cell? ⟨g + 1 + 1, 0, none⟩ = some (.int .u64 t) ∧ w.cell? ⟨g + 1 + 1, 1, none⟩ = some (.string s) ∧
  w.frozen? ⟨g + 1, 0, none⟩ = false ∧ w.frozen? ⟨g + 1, 1, none⟩ = false ∧ w.frozen? ⟨g + 1 + 1, 0, none⟩ = false ∧ w.frozen? ⟨g + 1 + 1, 1, none⟩ = false
theorem LS.below {g : Nat} {size : Int} {A : Option Addr} {n c : Nat} {t : Int} {s : ByteArray} {w w' : World} (h : LS g size A n c t s w) (hb : Below w.heap.size w w') : LS g size A n c t s w' := by
  have step : ∀ {a : Addr} {v : Value}, w.cell? a = some v → w'.cell? a = some v := fun h => (hb.cell (World.block_lt_of_cell? _ _ h)).trans h
  obtain ⟨h1, h2, h3, h4, h5, h6, h7, h8, h9, f1, f2, f3, f4⟩ := h
  have q1 := World.block_lt_of_cell? _ _ h6
  have q2 := World.block_lt_of_cell? _ _ h8
  exact ⟨step h1, step h2, step h3, step h4, step h5, step h6, step h7, step h8, step h9, (hb.frozen (p := ⟨g + 1, 0, none⟩) q1).trans f1, (hb.frozen (p := ⟨g + 1, 1, none⟩) q1).trans f2, (hb.frozen (p := ⟨g + 1 + 1, 0, none⟩) q2).trans f3, (hb.frozen (p := ⟨g + 1 + 1, 1, none⟩) q2).trans f4⟩

/-- what is known behind a Send: the state, the box that came back at the block h, the act's cells -/
def PS (w0 : World) (g : Nat) (size : Int) (A : Option Addr) (n c : Nat) (t : Int) (s : ByteArray) (h : Nat) (B : Option Addr) (m d : Nat) (ms : List Msg) (b o : Nat) (now : Int) (body : ByteArray) (w : World) : Prop :=
  LS g size A n c t s w ∧ w.cell? ⟨h, 0, none⟩ = some (.slice B m d) ∧ w.cell? ⟨h, 1, none⟩ = some (.int .i64 0) ∧ w.cell? ⟨b, o + 1, none⟩ = some (.int .u64 now) ∧ w.cell? ⟨b, o + 2, none⟩ = some (.string body) ∧
  (∀ q, B = some q → g + 1 + 1 < q.block ∧ q.block < w.heap.size) ∧ Rd w B m d ms ∧ Below w0.heap.size w0 w ∧ g + 1 + 1 < h ∧ h < w.heap.size

end Go.Proofs.Ytepnfhjfjjdpkaa.Port
