/-
  An instruction's line: the plain law; a string's bytes laid in a row of their own. Conditions: none.
-/
import Derived.Test.YtijjamiidpikdaaDoorAsmFig
import Derived.Test.YtijjamiidpikdaaDoorIsaPlain
import Derived.Lib.ConvBytes
namespace Go.Proofs.YtijjamiidpikdaaDoor.Asm
open Go.RowKit Go.Proofs.YtijjamiidpikdaaDoor.Isa

/-- the operations' names, what each uses -/
def namesL : List (List UInt8) := [[], [108, 105], [108, 117, 105], [109, 111, 118], [97, 100, 100], [115, 117, 98], [109, 117, 108], [100, 105, 118], [97, 110, 100], [111, 114], [120, 111, 114], [115, 104, 108], [115, 104, 114], [97, 100, 100, 105], [108, 119], [115, 119], [108, 98], [115, 98], [106, 109, 112], [106, 97, 108], [106, 114], [98, 101, 113], [98, 108, 116], [98, 108, 116, 117], [115, 121, 115]]
def usesS : List (List UInt8) := [[], [97, 105], [97, 105], [97, 98], [97, 98], [97, 98], [97, 98], [97, 98], [97, 98], [97, 98], [97, 98], [97, 98], [97, 98], [97, 105], [97, 98, 105], [97, 98, 105], [97, 98, 105], [97, 98, 105], [105], [97, 105], [97], [97, 98, 105], [97, 98, 105], [97, 98, 105], []]
def nameOf (op : Nat) : List UInt8 := namesL.getD op []
def useOf (op : Nat) : List UInt8 := usesS.getD op []
def part (a b imm : Int) (u : UInt8) : List UInt8 := if u = 97 then 32 :: 114 :: figs a else if u = 98 then 32 :: 114 :: figs b else 32 :: figs imm
/-- an instruction's line -/
def lineL (op : Nat) (a b imm : Int) : List UInt8 := nameOf op ++ (useOf op).flatMap (part a b imm)

theorem name_len : ∀ op : Nat, op < 25 → (nameOf op).length ≤ 4 := by decide
theorem use_len : ∀ op : Nat, op < 25 → (useOf op).length ≤ 3 := by decide
theorem part_len {a b imm : Int} (ha0 : -99999 ≤ a) (ha1 : a ≤ 99999) (hb0 : -99999 ≤ b) (hb1 : b ≤ 99999) (hi0 : -99999 ≤ imm) (hi1 : imm ≤ 99999) (u : UInt8) : (part a b imm u).length ≤ 8 := by
  have := (figs_len ha0 ha1).2
  have := (figs_len hb0 hb1).2
  have := (figs_len hi0 hi1).2
  unfold part
  split
  · simp; omega
  · split
    · simp; omega
    · simp; omega
theorem flat_len {f : UInt8 → List UInt8} (hf : ∀ u, (f u).length ≤ 8) (l : List UInt8) : (l.flatMap f).length ≤ 8 * l.length := by
  induction l with
  | nil => simp
  | cons u l ih => have := hf u; simp only [List.flatMap_cons, List.length_append, List.length_cons]; omega
theorem str_app (a b : List UInt8) : (⟨a.toArray⟩ : ByteArray) ++ ⟨b.toArray⟩ = ⟨(a ++ b).toArray⟩ := by
  apply ByteArray.ext
  rw [ByteArray.data_append]
  simp
theorem str_two (x : List UInt8) (p q : UInt8) (f : List UInt8) : (⟨x.toArray⟩ : ByteArray) ++ ((⟨#[p, q]⟩ : ByteArray) ++ ⟨f.toArray⟩) = ⟨(x ++ p :: q :: f).toArray⟩ := by
  rw [show (⟨#[p, q]⟩ : ByteArray) = ⟨[p, q].toArray⟩ from rfl, str_app, str_app]
  rfl
theorem str_one (x : List UInt8) (p : UInt8) (f : List UInt8) : (⟨x.toArray⟩ : ByteArray) ++ ((⟨#[p]⟩ : ByteArray) ++ ⟨f.toArray⟩) = ⟨(x ++ p :: f).toArray⟩ := by
  rw [show (⟨#[p]⟩ : ByteArray) = ⟨[p].toArray⟩ from rfl, str_app, str_app]
  rfl

/-- a table of strings: its cells -/
def TabS (g : Nat) (l : List (List UInt8)) (w : World) : Prop := g < w.heap.size ∧ ∀ n : Nat, n < 25 → w.cell? ⟨g, n, none⟩ = some (.string ⟨(l.getD n []).toArray⟩)
theorem TabS.below {g : Nat} {l : List (List UInt8)} {w w' : World} (h : TabS g l w) (hb : Below w.heap.size w w') : TabS g l w' :=
  ⟨Nat.lt_of_lt_of_le h.1 hb.size, fun n hn => (hb.cell (p := ⟨g, n, none⟩) h.1).trans (h.2 n hn)⟩

/-- a string's bytes, in a row of their own -/
theorem conv_str (w : World) (l : List UInt8) (hl : l.length ≤ maxLen) :
    ∃ cap W, (convert 9 52 (.string ⟨l.toArray⟩)).run Tryd.prog w = .ok (.slice (some ⟨w.heap.size, 0, none⟩) l.length cap) W ∧ l.length ≤ cap ∧ cap ≤ maxLen ∧
      (∀ k c, l[k]? = some c → W.cell? ⟨w.heap.size, k, none⟩ = some (.int .u8 (c.toNat : Int))) ∧ Below w.heap.size w W ∧ w.heap.size < W.heap.size := by
  refine ⟨_, _, Lib.run_convert_string_bytes w 9 52 5 ⟨l.toArray⟩ Tryd.underlying9 Tryd.underlying52 Tryd.underlying5, grownCap_ge _ _ _ _, grownCap_le_maxLen _ _ _ _ hl, ?_, ?_, by rw [Lib.bytesWorld_size]; omega⟩
  · intro k c hk
    have hkl : k < l.length := (List.getElem?_eq_some_iff.1 hk).1
    rw [Lib.bytesWorld_cell w _ (⟨l.toArray⟩ : ByteArray) k (show k < l.length from hkl)]
    simp only [List.getD_eq_getElem?_getD, hk, Option.getD_some]
  · refine ⟨?_, ?_, ?_, by rw [Lib.bytesWorld_size]; omega, fun j hj => Lib.bytesWorld_at_old w _ _ j hj⟩
    all_goals
      unfold Lib.bytesWorld World.freeze
      split <;> rfl

end Go.Proofs.YtijjamiidpikdaaDoor.Asm
