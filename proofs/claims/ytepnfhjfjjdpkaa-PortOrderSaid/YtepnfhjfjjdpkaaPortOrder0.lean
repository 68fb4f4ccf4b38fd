/-
  What PortOrder holds between its rounds. Conditions: none.
-/
import Derived.Test.YtepnfhjfjjdpkaaPortActs0
import Derived.Test.YtepnfhjfjjdpkaaRow
import Derived.Deep.AppendLies
namespace Go.Proofs.Ytepnfhjfjjdpkaa.Port
open Go.RowKit

/-- the channel, the box -/
def OS (g : Nat) (size depth : Int) (A : Option Addr) (n c : Nat) (lost : Int) (w : World) : Prop :=
  w.cell? ⟨g, 0, none⟩ = some (.int .i64 2) ∧ w.cell? ⟨g, 1, none⟩ = some (.int .i64 0) ∧ w.cell? ⟨g, 2, none⟩ = some (.int .i64 1) ∧ w.cell? ⟨g, 3, none⟩ = some (.int .i64 size) ∧ w.cell? ⟨g, 4, none⟩ = some (.int .i64 depth) ∧
  w.cell? ⟨g + 1, 0, none⟩ = some (.slice A n c) ∧ w.cell? ⟨g + 1, 1, none⟩ = some (.int .i64 lost) ∧ w.frozen? ⟨g + 1, 0, none⟩ = false ∧ w.frozen? ⟨g + 1, 1, none⟩ = false
theorem OS.below {g : Nat} {size depth : Int} {A : Option Addr} {n c : Nat} {lost : Int} {w w' : World} (h : OS g size depth A n c lost w) (hb : Below w.heap.size w w') : OS g size depth A n c lost w' := by
  have step : ∀ {a : Addr} {v : Value}, w.cell? a = some v → w'.cell? a = some v := fun h => (hb.cell (World.block_lt_of_cell? _ _ h)).trans h
  obtain ⟨h1, h2, h3, h4, h5, h6, h7, f1, f2⟩ := h
  have q1 := World.block_lt_of_cell? _ _ h6
  exact ⟨step h1, step h2, step h3, step h4, step h5, step h6, step h7, (hb.frozen (p := ⟨g + 1, 0, none⟩) q1).trans f1, (hb.frozen (p := ⟨g + 1, 1, none⟩) q1).trans f2⟩

/-- the counters: what was sent is what came in and what was lost; what waits is what came in and was not taken -/
def Books (depth : Int) (k : Nat) (ins ms : List Msg) (got sent lost : Nat) : Prop :=
  got ≤ ins.length ∧ ms = ins.drop got ∧ sent = ins.length + lost ∧ (ms.length : Int) ≤ depth ∧ sent ≤ k
theorem Books.start (depth : Int) (h : 1 ≤ depth) : Books depth 0 [] [] 0 0 0 := ⟨Nat.le_refl _, rfl, rfl, by simp; omega, Nat.le_refl _⟩
theorem Books.none {depth : Int} {k : Nat} {ins ms : List Msg} {got sent lost : Nat} (h : Books depth k ins ms got sent lost) : Books depth (k + 1) ins ms got sent lost := by
  obtain ⟨h1, h2, h3, h4, h5⟩ := h
  exact ⟨h1, h2, h3, h4, by omega⟩
theorem Books.take {depth : Int} {k : Nat} {ins ms : List Msg} {m : Msg} {got sent lost : Nat} (h : Books depth k ins (m :: ms) got sent lost) : got < ins.length ∧ ins[got]? = some m ∧ Books depth (k + 1) ins ms (got + 1) sent lost := by
  obtain ⟨h1, h2, h3, h4, h5⟩ := h
  have hl : got < ins.length := by
    have := congrArg List.length h2
    simp at this
    omega
  rw [List.drop_eq_getElem_cons hl] at h2
  injection h2 with e1 e2
  refine ⟨hl, by rw [List.getElem?_eq_getElem hl, e1], by omega, e2, h3, ?_, by omega⟩
  simp at h4
  omega
theorem Books.send {depth : Int} {k : Nat} {ins ms : List Msg} {m : Msg} {got sent lost : Nat} (h : Books depth k ins ms got sent lost) (hd : (ms.length : Int) < depth) : Books depth (k + 1) (ins ++ [m]) (ms ++ [m]) got (sent + 1) lost := by
  obtain ⟨h1, h2, h3, h4, h5⟩ := h
  refine ⟨by simp; omega, ?_, by simp; omega, by simp; omega, by omega⟩
  rw [List.drop_append_of_le_length h1, h2]
theorem Books.lost {depth : Int} {k : Nat} {ins ms : List Msg} {got sent lost : Nat} (h : Books depth k ins ms got sent lost) : Books depth (k + 1) ins ms got (sent + 1) (lost + 1) := by
  obtain ⟨h1, h2, h3, h4, h5⟩ := h
  exact ⟨h1, h2, by omega, h4, by omega⟩

/-- what is known behind a Send: the state, the box that came back at the block h, the act's cells -/
def PO (w0 : World) (g : Nat) (size depth : Int) (A : Option Addr) (n c : Nat) (lost : Int) (h : Nat) (B : Option Addr) (m d : Nat) (lost' : Int) (ms : List Msg) (b o : Nat) (now : Int) (body : ByteArray) (V : Value) (ins : List Msg) (w : World) : Prop :=
  OS g size depth A n c lost w ∧ w.cell? ⟨h, 0, none⟩ = some (.slice B m d) ∧ w.cell? ⟨h, 1, none⟩ = some (.int .i64 lost') ∧ w.cell? ⟨b, o + 1, none⟩ = some (.int .u64 now) ∧ w.cell? ⟨b, o + 2, none⟩ = some (.string body) ∧
  (∀ q, B = some q → 0 < m → g + 1 < q.block ∧ q.block < w.heap.size ∧ V.ownBlock ≠ some q.block) ∧ Rd w B m d ms ∧ Below w0.heap.size w0 w ∧ g + 1 < h ∧ h < w.heap.size ∧ V.ownBlock ≠ some h ∧ b < w0.heap.size ∧ w0.heap.size ≤ g ∧ w.ownsRow (g + 1 + 1) 39 2 V ins.length (cellsM ins)

theorem PO.appended {w0 : World} {g : Nat} {size depth : Int} {A : Option Addr} {n c : Nat} {lost : Int} {h : Nat} {B : Option Addr} {m d : Nat} {lost' : Int} {ms : List Msg} {b o : Nat} {now : Int} {body : ByteArray} {V : Value} {ins : List Msg} {w x : World}
    (H : PO w0 g size depth A n c lost h B m d lost' ms b o now body V ins w) {ob : Obj} (hgrow : (w.drew.alloc ob).grownBy x V.ownBlock) {g' cap' : Nat}
    (hown : x.ownsRow (g + 1 + 1) 39 2 (.slice (some ⟨g', 0, none⟩) (ins.length + 1) cap') (ins.length + 1) (cellsM ins ++ [.int .u64 now, .string body])) (hat : V.ownBlock = some g' ∨ g' = w.heap.size + 1) :
    PO w0 g size depth A n c lost h B m d lost' ms b o now body (.slice (some ⟨g', 0, none⟩) (ins.length + 1) cap') (ins ++ [(now, body)]) x := by
  obtain ⟨hS, h0, h1, a1, a2, hF, hR, hB, hgh, hhw, hVh, hbw, hwg, hO⟩ := H
  have hV : ∀ j, V.ownBlock = some j → g + 1 + 1 ≤ j ∧ j < w.heap.size := hO.lt
  have es : (w.drew.alloc ob).heap.size = w.heap.size + 1 := by rw [World.size_alloc]; rfl
  have hd : Below w.heap.size w (w.drew.alloc ob) := (Below.refl _ _).drew.alloc (Nat.le_refl _) ob
  have hsz : w.heap.size + 1 ≤ x.heap.size := by have := hgrow.size; omega
  have far : ∀ (p : Addr), p.block < w.heap.size → some p.block ≠ V.ownBlock → x.cell? p = w.cell? p := fun p hp hne =>
    (hgrow.cell_far p (by omega) hne).trans (hd.cell hp)
  have farF : ∀ (p : Addr), p.block < w.heap.size → some p.block ≠ V.ownBlock → x.frozen? p = w.frozen? p := fun p hp hne =>
    (hgrow.frozen_far p (by omega) hne).trans (hd.frozen hp)
  have ne : ∀ j, j < g + 1 + 1 → some j ≠ V.ownBlock := fun j hj e => by have := (hV j e.symm).1; omega
  have cl : ∀ {p : Addr} {v : Value}, w.cell? p = some v → some p.block ≠ V.ownBlock → x.cell? p = some v := fun hp hne => (far _ (World.block_lt_of_cell? _ _ hp) hne).trans hp
  obtain ⟨s1, s2, s3, s4, s5, s6, s7, f1, f2⟩ := hS
  have hBd : Below w0.heap.size w0 x := (hB.trans (hd.mono hB.size)).grown hgrow (by have := hB.size; omega) (fun j hj => by have := (hV j hj).1; omega)
  have q1 := World.block_lt_of_cell? _ _ s6
  refine ⟨⟨cl s1 (ne _ (by simp <;> omega)), cl s2 (ne _ (by simp <;> omega)), cl s3 (ne _ (by simp <;> omega)), cl s4 (ne _ (by simp <;> omega)), cl s5 (ne _ (by simp <;> omega)), cl s6 (ne _ (by simp <;> omega)), cl s7 (ne _ (by simp <;> omega)), (farF ⟨g + 1, 0, none⟩ q1 (ne _ (by simp <;> omega))).trans f1, (farF ⟨g + 1, 1, none⟩ q1 (ne _ (by simp <;> omega))).trans f2⟩,
    cl h0 (fun e => hVh e.symm), cl h1 (fun e => hVh e.symm), cl a1 (ne _ (by simp; omega)), cl a2 (ne _ (by simp; omega)), ?_, ?_, hBd, hgh, by omega, ?_, hbw, hwg, ?_⟩
  · intro q hq hm
    obtain ⟨y1, y2, y3⟩ := hF q hq hm
    refine ⟨y1, by omega, fun e => ?_⟩
    simp only [Value.ownBlock, Option.some.injEq] at e
    rcases hat with hat | hat
    · exact y3 (by rw [hat, e])
    · omega
  · obtain ⟨r1, r2, r3, r4, r5⟩ := hR
    refine ⟨r1, r2, r3, r4, fun q hq => ⟨fun hm => by have := (r5 q hq).1 hm; omega, fun j u hu => ?_⟩⟩
    have hj : j < (cellsM ms).length := (List.getElem?_eq_some_iff.1 hu).1
    rw [cellsM_length] at hj
    have hm : 0 < m := by omega
    exact cl ((r5 q hq).2 j u hu) (by rw [add_block]; exact fun e => (hF q hq hm).2.2 e.symm)
  · intro e
    simp only [Value.ownBlock, Option.some.injEq] at e
    rcases hat with hat | hat
    · exact hVh (by rw [hat, e])
    · omega
  · rw [cellsM_append]
    simpa [cellsM] using hown

end Go.Proofs.Ytepnfhjfjjdpkaa.Port
