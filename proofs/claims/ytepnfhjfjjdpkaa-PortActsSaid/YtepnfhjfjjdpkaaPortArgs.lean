/-
  The arguments of the ports' laws, opened: a channel, a box, a time, a body, out of a struct's cells; a box's capacity is within the reach. Conditions: none.
-/
import Derived.Test.YtepnfhjfjjdpkaaLaw
import Derived.Test.YtepnfhjfjjdpkaaPortRd
import Derived.Deep.Slices
namespace Go.Proofs.Ytepnfhjfjjdpkaa.Port
open Go.ChangeShapes Go.WideShapes Go.ChangeAt Go.RowKit Go.Joins Go.Deep

theorem cellsChan : Try.prog.cellsOf 23 = 5 := by kernel_rfl
theorem cellsBox : Try.prog.cellsOf 26 = 2 := by kernel_rfl
theorem cellsMsg : Try.prog.cellsOf 39 = 2 := by kernel_rfl
theorem cellsRow : Try.prog.cellsOf 24 = 1 := by kernel_rfl
theorem cellsInt : Try.prog.cellsOf 3 = 1 := by kernel_rfl
theorem cellsU64 : Try.prog.cellsOf 27 = 1 := by kernel_rfl
theorem cellsStr : Try.prog.cellsOf 9 = 1 := by kernel_rfl
theorem bytesMsg : Try.prog.bytesOf 39 = 24 := by kernel_rfl

theorem list4 {α : Type} (l : List α) (h : l.length = 4) : ∃ a0 a1 a2 a3 : α, l = [a0, a1, a2, a3] := by
  match l, h with
  | [a0, a1, a2, a3], _ => exact ⟨_, _, _, _, rfl⟩
theorem list5 {α : Type} (l : List α) (h : l.length = 5) : ∃ a0 a1 a2 a3 a4 : α, l = [a0, a1, a2, a3, a4] := by
  match l, h with
  | [a0, a1, a2, a3, a4], _ => exact ⟨_, _, _, _, _, rfl⟩
theorem list6 {α : Type} (l : List α) (h : l.length = 6) : ∃ a0 a1 a2 a3 a4 a5 : α, l = [a0, a1, a2, a3, a4, a5] := by
  match l, h with
  | [a0, a1, a2, a3, a4, a5], _ => exact ⟨_, _, _, _, _, _, rfl⟩
theorem list9 {α : Type} (l : List α) (h : l.length = 9) : ∃ a0 a1 a2 a3 a4 a5 a6 a7 a8 : α, l = [a0, a1, a2, a3, a4, a5, a6, a7, a8] := by
  match l, h with
  | [a0, a1, a2, a3, a4, a5, a6, a7, a8], _ => exact ⟨_, _, _, _, _, _, _, _, _, rfl⟩
theorem list11 {α : Type} (l : List α) (h : l.length = 11) : ∃ a0 a1 a2 a3 a4 a5 a6 a7 a8 a9 a10 : α, l = [a0, a1, a2, a3, a4, a5, a6, a7, a8, a9, a10] := by
  match l, h with
  | [a0, a1, a2, a3, a4, a5, a6, a7, a8, a9, a10], _ => exact ⟨_, _, _, _, _, _, _, _, _, _, _, rfl⟩
theorem list12 {α : Type} (l : List α) (h : l.length = 12) : ∃ a0 a1 a2 a3 a4 a5 a6 a7 a8 a9 a10 a11 : α, l = [a0, a1, a2, a3, a4, a5, a6, a7, a8, a9, a10, a11] := by
  match l, h with
  | [a0, a1, a2, a3, a4, a5, a6, a7, a8, a9, a10, a11], _ => exact ⟨_, _, _, _, _, _, _, _, _, _, _, _, rfl⟩

section
variable {H : Type} {enc : TypeId × Value → H} {w : World} {held : Bool} {fuel : Nat} {cs : List Value} {x : DataW H × List MemPlace}
theorem open_chan {spare : Nat → Bool} {base : Nat} (h : DataW.trod enc Try.prog w base spare held fuel 23 cs = some x) :
    ∃ kind fr to size depth : Int, cs = [.int .i64 kind, .int .i64 fr, .int .i64 to, .int .i64 size, .int .i64 depth] := by
  obtain ⟨xs, n, rfl, hx, hlen, hxl, hf⟩ := DataW.trod_struct Try.underlying23 h
  rw [cellsChan] at hlen
  match cs, hlen with
  | [c0, c1, c2, c3, c4], _ =>
    match xs, hxl with
    | [x0, x1, x2, x3, x4], _ =>
      obtain ⟨a0, e0, _, _⟩ := DataW.trod_int Try.underlying3 (x := x0) (by simpa [cellsInt] using hf 0 _ rfl)
      obtain ⟨a1, e1, _, _⟩ := DataW.trod_int Try.underlying3 (x := x1) (by simpa [cellsInt] using hf 1 _ rfl)
      obtain ⟨a2, e2, _, _⟩ := DataW.trod_int Try.underlying3 (x := x2) (by simpa [cellsInt] using hf 2 _ rfl)
      obtain ⟨a3, e3, _, _⟩ := DataW.trod_int Try.underlying3 (x := x3) (by simpa [cellsInt] using hf 3 _ rfl)
      obtain ⟨a4, e4, _, _⟩ := DataW.trod_int Try.underlying3 (x := x4) (by simpa [cellsInt] using hf 4 _ rfl)
      simp at e0 e1 e2 e3 e4
      subst e0 e1 e2 e3 e4
      exact ⟨_, _, _, _, _, rfl⟩

theorem open_msgs (h : DataW.trod enc Try.prog w 0 (fun _ => true) held fuel 24 cs = some x) :
    ∃ (A : Option Addr) (n c : Nat) (ms : List Msg), cs = [.slice A n c] ∧ Rd w A n c ms ∧ ((x.1.weights Try.prog 24).all (· ≤ reachBytes) = true → c * 24 ≤ reachBytes) := by
  rcases open_slice Try.underlying24 h with ⟨rfl, _⟩ | ⟨a, len, cap, m, n, D, Pl, rfl, _, hl, hm, hmm, rfl, hi⟩
  · exact ⟨none, 0, 0, [], rfl, Rd.nil w, fun _ => by simp⟩
  · simp at hmm
    rw [cellsMsg] at hi
    have each : ∀ i, i < m → ∃ g : Msg, w.cell? (a.add (i * 2)) = some (.int .u64 g.1) ∧ w.cell? (a.add (i * 2 + 1)) = some (.string g.2) := by
      intro i hic
      obtain ⟨cs', hc, ht⟩ := hi i hic
      obtain ⟨xs, n', rfl, hx, hlen, hxl, hf⟩ := DataW.trod_struct Try.underlying39 ht
      rw [cellsMsg] at hlen
      match cs', hlen with
      | [c0, c1], _ =>
        match xs, hxl with
        | [x0, x1], _ =>
          obtain ⟨a0, e0, _, _⟩ := DataW.trod_int Try.underlying27 (x := x0) (by simpa [cellsU64] using hf 0 _ rfl)
          obtain ⟨a1, e1, _, _⟩ := DataW.trod_string Try.underlying9 (x := x1) (by simpa [cellsStr] using hf 1 _ rfl)
          simp at e0 e1
          subst e0 e1
          obtain ⟨_, hcl, hat⟩ := World.cells?_some hc
          have h0 := hat 0 (by simp)
          have h1 := hat 1 (by simp)
          refine ⟨(a0, a1), ?_, ?_⟩
          · rw [Go.Deep.add_add] at h0
            simpa using h0
          · rw [Go.Deep.add_add] at h1
            simpa using h1
    obtain ⟨g, hg⟩ := choose_lt (α := Msg) (p := fun i g => w.cell? (a.add (i * 2)) = some (.int .u64 g.1) ∧ w.cell? (a.add (i * 2 + 1)) = some (.string g.2)) each
    have hbl : 0 < m → a.block < w.heap.size := fun h0 => by
      have := World.block_lt_of_cell? _ _ (hg 0 h0).1
      rwa [add_block] at this
    refine ⟨some a, len, _, (List.range len).map g, rfl, ⟨by simp, hl, hm, (fun e => by cases e), fun b hb => ?_⟩, fun hw => ?_⟩
    · injection hb with hb
      subst hb
      refine ⟨fun h0 => hbl (by omega), fun j u hu => ?_⟩
      have hj : j < (cellsM ((List.range len).map g)).length := (List.getElem?_eq_some_iff.1 hu).1
      rw [cellsM_length] at hj
      simp only [List.length_map, List.length_range] at hj
      have hk : ((List.range len).map g)[j / 2]? = some (g (j / 2)) := by
        rw [List.getElem?_map, List.getElem?_range (by omega)]
        rfl
      obtain ⟨q0, q1⟩ := cellsM_get _ _ _ hk
      obtain ⟨r0, r1⟩ := hg (j / 2) (by omega)
      rcases Nat.mod_two_eq_zero_or_one j with hj2 | hj2
      · have e : j / 2 * 2 = j := by omega
        rw [e] at q0 r0
        rw [r0, ← q0, hu]
      · have e : j / 2 * 2 + 1 = j := by omega
        rw [e] at q1 r1
        rw [r1, ← q1, hu]
    · simp only [DataW.weights, Try.underlying24, List.all_cons, List.length_map, List.length_range, bytesMsg, Bool.and_eq_true, decide_eq_true_eq] at hw
      have := hw.1
      rw [show len + (m - len) = m by omega] at this
      omega

theorem open_box (h : DataW.trod enc Try.prog w 0 (fun _ => true) held fuel 26 cs = some x) :
    ∃ (A : Option Addr) (n c : Nat) (ms : List Msg) (lost : Int), cs = [.slice A n c, .int .i64 lost] ∧ Rd w A n c ms ∧ ((x.1.weights Try.prog 26).all (· ≤ reachBytes) = true → c * 24 ≤ reachBytes) ∧ (Lit.int .i64 lost).wf = true := by
  obtain ⟨xs, n, rfl, hx, hlen, hxl, hf⟩ := DataW.trod_struct Try.underlying26 h
  rw [cellsBox] at hlen
  match cs, hlen with
  | [c0, c1], _ =>
    match xs, hxl with
    | [x0, x1], _ =>
      obtain ⟨A, n, c, ms, e0, hR, hW⟩ := open_msgs (x := x0) (by simpa [cellsRow] using hf 0 _ rfl)
      obtain ⟨a1, e1, _, hwf⟩ := DataW.trod_int Try.underlying3 (x := x1) (by simpa [cellsInt] using hf 1 _ rfl)
      simp at e0 e1
      subst e0 e1
      refine ⟨A, n, c, ms, a1, rfl, hR, fun hw => hW ?_, hwf⟩
      rw [hx] at hw
      simp only [DataW.weights, Try.underlying26] at hw
      simp [DataW.weightsEach] at hw ⊢
      exact hw.1
end

end Go.Proofs.Ytepnfhjfjjdpkaa.Port
