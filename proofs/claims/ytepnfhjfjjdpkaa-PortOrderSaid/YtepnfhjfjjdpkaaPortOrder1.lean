/-
  What PortOrder's rounds keep: the box's list beside a store, an own row behind a call. Conditions: none.
-/
import Derived.Test.YtepnfhjfjjdpkaaPortOrder0
import Derived.Test.YtepnfhjfjjdpkaaPortSend
import Derived.OneCell
import Derived.IntWalk
namespace Go.Proofs.Ytepnfhjfjjdpkaa.Port
open Go.RowKit

theorem Rd.setCell0 {w : World} {A : Option Addr} {n c : Nat} {ms : List Msg} (h : Rd w A n c ms) {p : Addr} (hp : ∀ b, A = some b → 0 < n → b.block ≠ p.block) (v : Value) : Rd (w.setCell p v) A n c ms := by
  rcases Nat.eq_zero_or_pos n with h0 | h0
  · obtain ⟨h1, h2, h3, h4, h5⟩ := h
    subst h0
    have e : ms = [] := List.eq_nil_of_length_eq_zero h1
    subst e
    exact ⟨rfl, h2, h3, h4, fun b _ => ⟨fun h => by omega, fun j u hu => by simp [cellsM] at hu⟩⟩
  · exact h.setCell (fun b hb => hp b hb h0) v

theorem own_keep {w w' : World} {base size n : Nat} {e : TypeId} {v : Value} {xs : List Value} (h : w.ownsRow base e size v n xs) (hb : Below w.heap.size w w') : w'.ownsRow base e size v n xs := by
  obtain ⟨h1, h2⟩ := h
  refine ⟨h1, ?_⟩
  rcases h2 with ⟨hv, rfl⟩ | ⟨g, cap, cur, hv, hg, hh, rest⟩
  · exact .inl ⟨hv, rfl⟩
  · have hlt : g < w.heap.size := by
      rcases Nat.lt_or_ge g w.heap.size with h | h
      · exact h
      · rw [Array.getElem?_eq_none h] at hh; cases hh
    exact .inr ⟨g, cap, cur, hv, hg, by rw [hb.block g hlt]; exact hh, rest⟩

/-- what the last statement reads, and what its calls keep -/
def KE (w0 : World) (g : Nat) (A : Option Addr) (n c : Nat) (lost : Int) (w : World) : Prop :=
  w.cell? ⟨g + 1, 0, none⟩ = some (.slice A n c) ∧ w.cell? ⟨g + 1, 1, none⟩ = some (.int .i64 lost) ∧ Hid (Below w0.heap.size w0 w) ∧ Hid (w0.heap.size ≤ w.heap.size)
theorem KE.keep {w0 : World} {g : Nat} {A : Option Addr} {n c : Nat} {lost : Int} {w w' : World} (h : KE w0 g A n c lost w) (hb : Below w.heap.size w w') : KE w0 g A n c lost w' := by
  have step : ∀ {a : Addr} {v : Value}, w.cell? a = some v → w'.cell? a = some v := fun h => (hb.cell (World.block_lt_of_cell? _ _ h)).trans h
  obtain ⟨h1, h2, hB, hs⟩ := h
  exact ⟨step h1, step h2, hB.out.trans (hb.mono hs.out), Nat.le_trans hs.out hb.size⟩

theorem send_lost2 (kind fr to size depth now : Int) (lost : Nat) (A : Option Addr) (n c : Nat) (body : ByteArray) (w : World) (hm : body.size ≤ maxLen) (hn : n ≤ maxLen) (h : (body.size : Int) ≤ size) (hk : (kind == 1) = false) (hd : depth ≤ (n : Int)) (hl : lost ≤ 300) :
    Calls Try.prog 11 #[.agg #[.int .i64 kind, .int .i64 fr, .int .i64 to, .int .i64 size, .int .i64 depth], .agg #[.slice A n c, .int .i64 lost], .int .u64 now, .string body] w fun e w' =>
      e = .returned (.tuple #[.agg #[.slice A n c, .int .i64 ((lost : Int) + 1)], .int .i64 0]) ∧ Below w.heap.size w w' := by
  have := send_lost kind fr to size depth lost now A n c body w hm hn h hk hd
  rwa [IntWalk.wrap64_in _ (by omega)] at this

theorem KE.keep2 {w0 : World} {g : Nat} {A : Option Addr} {n c : Nat} {lost : Int} {w w' : World} (hb : Below w.heap.size w w') (h : KE w0 g A n c lost w) : KE w0 g A n c lost w' := h.keep hb

end Go.Proofs.Ytepnfhjfjjdpkaa.Port
