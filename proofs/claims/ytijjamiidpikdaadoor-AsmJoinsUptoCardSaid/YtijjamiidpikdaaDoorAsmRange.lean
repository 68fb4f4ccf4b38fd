/-
  A range over the words of a text, its body a collecting one: the statement's law. Conditions: at most 2097152 bytes.
-/
import Derived.Test.YtijjamiidpikdaaDoorAsmAgr
import Derived.Test.YtijjamiidpikdaaDoorAsmLine
import Derived.Outline
namespace Go.Proofs.YtijjamiidpikdaaDoor.Asm
open Go.RowKit Go.Shelf
attribute [local go_sem] Oper.semAt_some

/-- what the first blocks hold while the words are collected -/
def SE (W0 : World) (n : Nat) (v : Value) (rest : List UInt8) (o : Obj) : Nat → Option Obj := fun k =>
  if k = n + 1 then some (.cells #[v] 56 (0, 0)) else if k = n + 2 then some (.cells #[.string ⟨rest.toArray⟩] 9 (0, 0)) else if k = n + 6 then some o else W0.heap[k]?
theorem SE_l {W0 : World} {n : Nat} {v : Value} {rest : List UInt8} {o : Obj} : SE W0 n v rest o (n + 1) = some (.cells #[v] 56 (0, 0)) := if_pos rfl
theorem SE_s {W0 : World} {n : Nat} {v : Value} {rest : List UInt8} {o : Obj} : SE W0 n v rest o (n + 2) = some (.cells #[.string ⟨rest.toArray⟩] 9 (0, 0)) := by
  unfold SE; rw [if_neg (by omega), if_pos rfl]
theorem SE_r {W0 : World} {n : Nat} {v : Value} {rest : List UInt8} {o : Obj} : SE W0 n v rest o (n + 6) = some o := by
  unfold SE; rw [if_neg (by omega), if_neg (by omega), if_pos rfl]
theorem SE_o {W0 : World} {n : Nat} {v : Value} {rest : List UInt8} {o : Obj} {k : Nat} (h1 : k ≠ n + 1) (h2 : k ≠ n + 2) (h3 : k ≠ n + 6) : SE W0 n v rest o k = W0.heap[k]? := by
  unfold SE; rw [if_neg h1, if_neg h2, if_neg h3]
theorem SE_put_l {W0 : World} {n : Nat} {v v' : Value} {rest : List UInt8} {o : Obj} (k : Nat) : (if k = n + 1 then some (.cells #[v'] 56 (0, 0)) else SE W0 n v rest o k) = SE W0 n v' rest o k := by
  unfold SE; split <;> rfl
theorem SE_put_s {W0 : World} {n : Nat} {v : Value} {rest rest' : List UInt8} {o : Obj} (k : Nat) : (if k = n + 2 then some (.cells #[.string ⟨rest'.toArray⟩] 9 (0, 0)) else SE W0 n v rest o k) = SE W0 n v rest' o k := by
  unfold SE
  by_cases h1 : k = n + 1
  · subst h1; rw [if_neg (by omega), if_pos rfl, if_pos rfl]
  · rw [if_neg h1, if_neg h1]; split <;> rfl
theorem SE_put_r {W0 : World} {n : Nat} {v : Value} {rest : List UInt8} {o o' : Obj} (k : Nat) : (if k = n + 6 then some o' else SE W0 n v rest o k) = SE W0 n v rest o' k := by
  unfold SE
  by_cases h1 : k = n + 1
  · subst h1; rw [if_neg (by omega), if_pos rfl, if_pos rfl]
  · rw [if_neg h1, if_neg h1]
    by_cases h2 : k = n + 2
    · subst h2; rw [if_neg (by omega), if_pos rfl, if_pos rfl]
    · rw [if_neg h2, if_neg h2]; split <;> rfl
/-- between two rounds -/
def SJ (W0 : World) (n : Nat) (o : Obj) (rest : List UInt8) (pre : List (List UInt8)) (W : World) : Prop :=
  ∃ v, Agr (n + 7) W0 (SE W0 n v rest o) W ∧ W.ownsRow (n + 7) 9 1 v pre.length (strsC pre)

/-- the world where the words begin -/
def wordsW (w : World) (l : List UInt8) : World :=
  ((((w.alloc (.cells #[.int .i64 0, .int .i64 0, .int .i64 0, .int .i64 0] 27)).alloc (.cells #[.slice none 0 0] 56)).alloc (.cells #[.string ⟨l.toArray⟩] 9)).alloc (.cells #[.string ⟨#[32]⟩] 9)).alloc (.cells #[.int .i64 0] 3)
theorem wordsW_size (w : World) (l : List UInt8) : (wordsW w l).heap.size = w.heap.size + 5 := by simp [wordsW]
theorem wordsW_heap (w : World) (l : List UInt8) : (wordsW w l).heap = ((((w.heap.push (.cells #[.int .i64 0, .int .i64 0, .int .i64 0, .int .i64 0] 27)).push (.cells #[.slice none 0 0] 56)).push (.cells #[.string ⟨l.toArray⟩] 9)).push (.cells #[.string ⟨#[32]⟩] 9)).push (.cells #[.int .i64 0] 3) := rfl
theorem wordsW_old (w : World) (l : List UInt8) {k : Nat} (h : k < w.heap.size) : (wordsW w l).heap[k]? = w.heap[k]? := by
  rw [wordsW_heap]
  simp only [Array.getElem?_push, Array.size_push]
  repeat rw [if_neg (by omega)]
theorem wordsW_0 (w : World) (l : List UInt8) : (wordsW w l).heap[w.heap.size]? = some (.cells #[.int .i64 0, .int .i64 0, .int .i64 0, .int .i64 0] 27) := by
  rw [wordsW_heap]
  simp only [Array.getElem?_push, Array.size_push]
  iterate 4 rw [if_neg (by omega)]
  rw [if_pos trivial]
theorem wordsW_1 (w : World) (l : List UInt8) : (wordsW w l).heap[w.heap.size + 1]? = some (.cells #[.slice none 0 0] 56) := by
  rw [wordsW_heap]
  simp only [Array.getElem?_push, Array.size_push]
  iterate 3 rw [if_neg (by omega)]
  rw [if_pos trivial]
theorem wordsW_2 (w : World) (l : List UInt8) : (wordsW w l).heap[w.heap.size + 2]? = some (.cells #[.string ⟨l.toArray⟩] 9) := by
  rw [wordsW_heap]
  simp only [Array.getElem?_push, Array.size_push]
  iterate 2 rw [if_neg (by omega)]
  rw [if_pos trivial]
theorem wordsW_3 (w : World) (l : List UInt8) : (wordsW w l).heap[w.heap.size + 3]? = some (.cells #[.string ⟨#[32]⟩] 9) := by
  rw [wordsW_heap]
  simp only [Array.getElem?_push, Array.size_push]
  iterate 1 rw [if_neg (by omega)]
  rw [if_pos trivial]
theorem wordsW_4 (w : World) (l : List UInt8) : (wordsW w l).heap[w.heap.size + 4]? = some (.cells #[.int .i64 0] 3) := by
  rw [wordsW_heap]
  simp only [Array.getElem?_push, Array.size_push]
  rw [if_pos trivial]
theorem wordsW_below (w : World) (l : List UInt8) : Below w.heap.size w (wordsW w l) := ⟨rfl, rfl, rfl, by rw [wordsW_size]; omega, fun _ hk => wordsW_old w l hk⟩
/-- with the loop's two blocks -/
def loopW (w : World) (l : List UInt8) (r : Loop) : World := ((wordsW w l).alloc (.deferred (some []))).alloc (.loop r)
theorem loopW_size (w : World) (l : List UInt8) (r : Loop) : (loopW w l r).heap.size = w.heap.size + 7 := by simp [loopW, wordsW_size]
theorem loopW_old (w : World) (l : List UInt8) (r : Loop) {k : Nat} (h : k < w.heap.size + 5) : (loopW w l r).heap[k]? = (wordsW w l).heap[k]? := by
  unfold loopW
  rw [Below.heap_alloc _ _ _ (by simp [wordsW_size]; omega), Below.heap_alloc _ _ _ (by rw [wordsW_size]; omega)]
theorem loopW_d (w : World) (l : List UInt8) (r : Loop) : (loopW w l r).heap[w.heap.size + 5]? = some (.deferred (some [])) := by
  unfold loopW
  rw [Below.heap_alloc _ _ _ (by simp [wordsW_size])]
  have := World.alloc_heap_new (wordsW w l) (.deferred (some []))
  rwa [wordsW_size] at this
theorem loopW_r (w : World) (l : List UInt8) (r : Loop) : (loopW w l r).heap[w.heap.size + 6]? = some (.loop r) := by
  unfold loopW
  have := World.alloc_heap_new ((wordsW w l).alloc (.deferred (some []))) (.loop r)
  rwa [World.size_alloc, wordsW_size] at this
/-- the start of the collecting -/
theorem sj_start (w : World) (l : List UInt8) (r : Loop) : SJ (loopW w l r) w.heap.size (.loop r) l [] (loopW w l r) := by
  refine ⟨.slice none 0 0, (Agr.self (Nat.le_of_eq (loopW_size w l r).symm)).congr (fun k hk => ?_), World.ownsRow_nil _ _ _ _⟩
  unfold SE
  by_cases h1 : k = w.heap.size + 1
  · rw [if_pos h1, h1, loopW_old w l r (by omega), wordsW_1]
  · rw [if_neg h1]
    by_cases h2 : k = w.heap.size + 2
    · rw [if_pos h2, h2, loopW_old w l r (by omega), wordsW_2]
    · rw [if_neg h2]
      by_cases h3 : k = w.heap.size + 6
      · rw [if_pos h3, h3, loopW_r]
      · rw [if_neg h3]

/-- the loop's record -/
def recW (fn : FuncId) (a : Act) (ps : Array Tmp) (assign body : Code) (n : Nat) (st : LoopState) : Loop := { state := st, pending := none, fn := fn, tmps := a.tmps, params := ps, assign := assign, body := body, defers := n + 5 }
/-- what is told behind the loop: the list's box and its row; the blocks that lay; the block of the deferred calls -/
structure Told (w W : World) (l : List UInt8) (v : Value) : Prop where
  box : Boxed W (w.heap.size + 1) 56 v
  row : W.ownsRow (w.heap.size + 7) 9 1 v (splitW l).length (strsC (splitW l))
  res : W.heap[w.heap.size]? = some (.cells #[.int .i64 0, .int .i64 0, .int .i64 0, .int .i64 0] 27)
  mark : W.heap[w.heap.size + 5]? = some (.deferred (some []))
  room : w.heap.size + 7 ≤ W.heap.size
  below : Below w.heap.size w W
theorem told_of {w W : World} {l : List UInt8} {r o : Loop} {rest : List UInt8} (h : SJ (loopW w l r) w.heap.size (.loop o) rest (splitW l) W) : ∃ v, Told w W l v := by
  obtain ⟨v, hA, hO⟩ := h
  refine ⟨v, hA.box (by omega) SE_l, hO, ?_, ?_, hA.room, ?_⟩
  · exact (hA.block _ (by omega)).trans ((SE_o (by omega) (by omega) (by omega)).trans ((loopW_old w l _ (by omega)).trans (wordsW_0 w l)))
  · exact (hA.block _ (by omega)).trans ((SE_o (by omega) (by omega) (by omega)).trans (loopW_d w l _))
  · have hb : Below w.heap.size w (loopW w l r) := ((wordsW_below w l).alloc (wordsW_below w l).size _).alloc (by simp [wordsW_size]; omega) _
    exact hb.trans (hA.below (by omega) (fun k hk => SE_o (by omega) (by omega) (by omega)))
theorem sj_put {w W : World} {l : List UInt8} {r o o' : Loop} {rest : List UInt8} {pre : List (List UInt8)} (h : SJ (loopW w l r) w.heap.size (.loop o) rest pre W) : SJ (loopW w l r) w.heap.size (.loop o') rest pre (W.putObj (w.heap.size + 6) (.loop o')) := by
  obtain ⟨v, hA, hO⟩ := h
  have hb6 := (hA.block (w.heap.size + 6) (by omega)).trans SE_r
  refine ⟨v, (hA.put _ (by omega) _).congr (fun k _ => SE_put_r k), hO.kept (grownBy_putObj' W _ _) (.inr (fun e => ?_))⟩
  have := (hO.lt _ e).1
  omega

/-- the words' row, read -/
theorem row_lit {W : World} {B : Nat} {v : Value} {ws : List (List UInt8)} (h : W.ownsRow B 9 1 v ws.length (strsC ws)) (hne : ws ≠ []) :
    ∃ g cap, v = .slice (some ⟨g, 0, none⟩) ws.length cap ∧ g < W.heap.size ∧ ∀ j, j < ws.length → W.cell? ⟨g, j, none⟩ = some (.string ⟨(ws.getD j []).toArray⟩) := by
  obtain ⟨A, c, rfl, _⟩ := own_slice h
  have hr := RdC.of_own h
  have hpos : 0 < ws.length := List.length_pos_iff.2 hne
  obtain ⟨b, o, rfl, hb, hc⟩ := hr.lit hpos (by omega)
  have ho : o = 0 := by
    rcases h.2 with ⟨e, _⟩ | ⟨g, cap, cur, e, _⟩
    · cases e
    · injection e with e1 _ _
      injection e1 with e1
      injection e1
  subst ho
  refine ⟨b, c, rfl, hb, fun j hj => ?_⟩
  have := hc j (.string ⟨(ws.getD j []).toArray⟩) (by simp [strsC, List.getElem?_eq_getElem hj, List.getD_eq_getElem?_getD])
  simpa using this

theorem wp_range_words {g : Operand} {ps : Array Tmp} {assign body : Code} {Q : Exit → Act → World → Prop} {a : Act} (l : List UInt8) (hl : l.length ≤ 2097152) (w : World)
    (hg : a.eval g = .func (.func 46) #[] #[.pointer (some ⟨w.heap.size + 3, 0, none⟩), .pointer (some ⟨w.heap.size + 2, 0, none⟩), .pointer (some ⟨w.heap.size + 4, 0, none⟩)]) (hps : ps.size = 1) (a₁ : Value → Act)
    (hassign : ∀ (L : Nat) (x : Value) (W : World) (K : Act → World → Prop), K (a₁ x) W → assign.wpIn (Fence.wide.inRound L) 7 Tryd.prog (Exit.then K (fun _ _ _ => False)) { tmps := (ps.zip #[x]).foldl (fun t (p, v) => t.setIfInBounds p v) a.tmps, defers := [] } W)
    (hbody : ∀ (L : Nat) (r o : Loop) (rest : List UInt8) (pre : List (List UInt8)) (x : List UInt8) (W : World), pre.length ≤ l.length → SJ (loopW w l r) w.heap.size (.loop o) rest pre W →
      body.wpIn (Fence.wide.inRound L) 7 Tryd.prog (fun e _ W' => e = .normal ∧ SJ (loopW w l r) w.heap.size (.loop o) rest (pre ++ [x]) W') (a₁ (.string ⟨x.toArray⟩)) W)
    (hdone : ∀ (v : Value) (W : World), Told w W l v → Q .normal { a with defers := { target := .collected (w.heap.size + 5), args := #[] } :: a.defers } W) :
    (Code.rangeFunc g ps assign body).wp Tryd.prog Q a (wordsW w l) := by
  refine (wpIn_wide (n := 9)).1 (wpIn_rangeFunc ?_)
  intro fn _
  have hrec : ∀ st, recW fn a ps assign body w.heap.size st = { state := st, pending := none, fn := fn, tmps := a.tmps, params := ps, assign := assign, body := body, defers := w.heap.size + 5 } := fun _ => rfl
  refine ⟨w.heap.size + 6, [{ target := .collected (w.heap.size + 5), args := #[] }], loopW w l (recW fn a ps assign body w.heap.size .ready), { target := .fn (.func 46) #[.pointer (some ⟨w.heap.size + 3, 0, none⟩), .pointer (some ⟨w.heap.size + 2, 0, none⟩), .pointer (some ⟨w.heap.size + 4, 0, none⟩)], args := #[.func (.yield (w.heap.size + 6)) #[] #[]] }, loopW w l (recW fn a ps assign body w.heap.size .ready), 46,
    #[.func (.yield (w.heap.size + 6)) #[] #[], .pointer (some ⟨w.heap.size + 3, 0, none⟩), .pointer (some ⟨w.heap.size + 2, 0, none⟩), .pointer (some ⟨w.heap.size + 4, 0, none⟩)], loopW w l (recW fn a ps assign body w.heap.size .ready), ?_, ?_, ?_, ?_, (fun h => by cases h), ?_⟩
  · have := run_enterLoop_outer (P := Tryd.prog) (w := wordsW w l) fn a.tmps ps assign body
    rw [wordsW_size] at this
    exact this
  · simp only [resolve, hg]
    simp [go_sem]
  · intro f' _; trivial
  · simp [invoke, go_sem]
  · refine (seq_in 8 (w.heap.size + 6) (w.heap.size + 2) (w.heap.size + 3) (w.heap.size + 4) l (by unfold maxLen; omega) (SJ (loopW w l (recW fn a ps assign body w.heap.size .ready)) w.heap.size (.loop (recW fn a ps assign body w.heap.size .ready))) ?j1 ?j2 ?jy _ (sj_start w l _)).mono ?_
    case j1 =>
      rintro rest pre W ⟨v, hA, _⟩
      have b2 := hA.box (b := w.heap.size + 2) (by omega) SE_s
      have b3 := hA.box (b := w.heap.size + 3) (by omega) ((SE_o (by omega) (by omega) (by omega)).trans ((loopW_old w l _ (by omega)).trans (wordsW_3 w l)))
      have b4 := hA.box (b := w.heap.size + 4) (by omega) ((SE_o (by omega) (by omega) (by omega)).trans ((loopW_old w l _ (by omega)).trans (wordsW_4 w l)))
      exact ⟨b2.cell, b2.frozen, b3.cell, b4.cell⟩
    case j2 =>
      rintro rest pre W rest' ⟨v, hA, hO⟩
      have b2 := hA.box (b := w.heap.size + 2) (by omega) SE_s
      refine ⟨v, ?_, hO.kept (grownBy_setCell' W _ _) ?_⟩
      · rw [setCell_box b2]
        exact (hA.put _ (by omega) _).congr (fun k _ => SE_put_s k)
      · refine .inr (fun e => ?_)
        have := (hO.lt _ e).1
        omega
    case jy =>
      rintro rest pre x W hJ hpl hxl
      have hb6 : W.heap[w.heap.size + 6]? = some (.loop (recW fn a ps assign body w.heap.size .ready)) := by
        obtain ⟨v, hA, _⟩ := hJ
        exact (hA.block (w.heap.size + 6) (by omega)).trans SE_r
      have hy := run_yield (P := Tryd.prog) (args := #[.string ⟨x.toArray⟩]) hb6 hps.symm
      refine ⟨fn, _, _, _, hy, roundIn_of_wpIn trivial ?_⟩
      refine hassign _ _ _ _ ⟨_, run_beginRound hb6 rfl, ?_⟩
      refine wpIn_mono (hbody _ _ { recW fn a ps assign body w.heap.size .ready with state := .busy } rest pre x _ hpl (sj_put hJ)) ?_
      rintro e a' W' ⟨rfl, hJ'⟩
      have hb7 : W'.heap[w.heap.size + 6]? = some (.loop { recW fn a ps assign body w.heap.size .ready with state := .busy }) := by
        obtain ⟨v, hA, _⟩ := hJ'
        exact (hA.block (w.heap.size + 6) (by omega)).trans SE_r
      exact ⟨_, _, run_endRound none hb7, rfl, sj_put hJ'⟩
    · rintro e W' ⟨⟨v, rfl⟩, rest, hJ⟩
      have hb6 : W'.heap[w.heap.size + 6]? = some (.loop (recW fn a ps assign body w.heap.size .ready)) := by
        obtain ⟨v, hA, _⟩ := hJ
        exact (hA.block (w.heap.size + 6) (by omega)).trans SE_r
      refine ⟨none, _, run_endLoop hb6 (by intro h; cases h), ?_⟩
      obtain ⟨u, hu⟩ := told_of (sj_put (o' := { recW fn a ps assign body w.heap.size .ready with state := .exhausted }) hJ)
      exact hdone u _ hu

end Go.Proofs.YtijjamiidpikdaaDoor.Asm
