/-
  The instructions' plain law: which may be, their words, with no program in sight. Conditions: none.
-/
import Derived.Laws.BitsAllLaws
import Derived.Below
namespace Go.Proofs.YtijjamiidpikdaaDoor.Isa
open Go.RowKit

/-- what each operation uses, as the table lays it -/
def usesL : List Int := [0, 5, 5, 3, 3, 3, 3, 3, 3, 3, 3, 3, 3, 5, 7, 7, 7, 7, 4, 5, 1, 7, 7, 7, 0]
def uA (op : Int) : Bool := op != 18 && op != 24
def uB (op : Int) : Bool := 3 ≤ op && op ≤ 12 || 14 ≤ op && op ≤ 17 || 21 ≤ op && op ≤ 23
def uI (op : Int) : Bool := op == 1 || op == 2 || 13 ≤ op && op ≤ 19 || 21 ≤ op && op ≤ 23

def InR (op a b imm : Int) : Prop := 1 ≤ op ∧ op ≤ 24 ∧ 0 ≤ a ∧ a ≤ 7 ∧ 0 ≤ b ∧ b ≤ 7 ∧ -32768 ≤ imm ∧ imm ≤ 32767
def Good (op a b imm : Int) : Prop := InR op a b imm ∧ (uA op = true ∨ a = 0) ∧ (uB op = true ∨ b = 0) ∧ (uI op = true ∨ imm = 0)
instance (op a b imm : Int) : Decidable (InR op a b imm) := by unfold InR; infer_instance
instance (op a b imm : Int) : Decidable (Good op a b imm) := by unfold Good; infer_instance
/-- may an instruction be -/
def mayB (op a b imm : Int) : Bool := decide (Good op a b imm)

theorem mayB_in {op a b imm : Int} (h : mayB op a b imm = true) : InR op a b imm := (of_decide_eq_true h).1

/-- an instruction's word -/
def wordN (op a b imm : Int) : Int := 16777216 * op + 1048576 * a + 65536 * b + imm % 65536

theorem or_add (i x y : Nat) (hx : x % 2 ^ i = 0) (hy : y < 2 ^ i) (hs : x + y < 4294967296) : bits .or .u32 (x : Int) (y : Int) = ((x + y : Nat) : Int) := by
  rw [u32_or_nat x y (by omega) (by omega), nat_join i x y hx hy]

theorem word_bits {op a b imm : Int} (h : InR op a b imm) :
    bits .or .u32 (bits .or .u32 (bits .or .u32 (op * 16777216) (a * 1048576)) (b * 65536)) (IntKind.u16.wrap imm % 4294967296) = wordN op a b imm := by
  obtain ⟨h1, h2, h3, h4, h5, h6, h7, h8⟩ := h
  obtain ⟨n, rfl⟩ := Int.eq_ofNat_of_zero_le (show 0 ≤ op by omega)
  obtain ⟨p, rfl⟩ := Int.eq_ofNat_of_zero_le h3
  obtain ⟨q, rfl⟩ := Int.eq_ofNat_of_zero_le h5
  have e : IntKind.u16.wrap imm % 4294967296 = imm % 65536 := by rw [IntKind.wrap_u16]; omega
  rw [e]
  obtain ⟨m, hm⟩ := Int.eq_ofNat_of_zero_le (show 0 ≤ imm % 65536 by omega)
  have hm' : m < 65536 := by omega
  unfold wordN
  rw [hm]
  rw [show (n : Int) * 16777216 = ((n * 16777216 : Nat) : Int) by omega, show (p : Int) * 1048576 = ((p * 1048576 : Nat) : Int) by omega, show (q : Int) * 65536 = ((q * 65536 : Nat) : Int) by omega]
  rw [or_add 24 _ _ (by omega) (by omega) (by omega), or_add 20 _ _ (by omega) (by omega) (by omega), or_add 16 _ _ (by omega) (by omega) (by omega)]
  omega

/-- the parts of a word -/
def tOp (x : Int) : Int := x / 16777216
def tA (x : Int) : Int := x / 1048576 % 16
def tB (x : Int) : Int := x / 65536 % 16
def tI (x : Int) : Int := if 32767 < x % 65536 then x % 65536 - 65536 else x % 65536

theorem word_range {op a b imm : Int} (h : InR op a b imm) : 0 ≤ wordN op a b imm ∧ wordN op a b imm < 4294967296 := by
  unfold InR at h; unfold wordN; omega
theorem tOp_word {op a b imm : Int} (h : InR op a b imm) : tOp (wordN op a b imm) = op := by unfold InR at h; unfold tOp wordN; omega
theorem tA_word {op a b imm : Int} (h : InR op a b imm) : tA (wordN op a b imm) = a := by unfold InR at h; unfold tA wordN; omega
theorem tB_word {op a b imm : Int} (h : InR op a b imm) : tB (wordN op a b imm) = b := by unfold InR at h; unfold tB wordN; omega
theorem tI_word {op a b imm : Int} (h : InR op a b imm) : tI (wordN op a b imm) = imm := by unfold InR at h; unfold tI wordN; omega
theorem word_inj {op a b imm op' a' b' imm' : Int} (h : InR op a b imm) (h' : InR op' a' b' imm') (e : wordN op a b imm = wordN op' a' b' imm') : op = op' ∧ a = a' ∧ b = b' ∧ imm = imm' :=
  ⟨by rw [← tOp_word h, e, tOp_word h'], by rw [← tA_word h, e, tA_word h'], by rw [← tB_word h, e, tB_word h'], by rw [← tI_word h, e, tI_word h']⟩
theorem word_of {x : Int} (_h0 : 0 ≤ x) (_h1 : x < 4294967296) : wordN (tOp x) (tA x) (tB x) (tI x) = x := by unfold wordN tOp tA tB tI; omega
/-- may a word be an instruction's -/
def isW (x : Int) : Bool := mayB (tOp x) (tA x) (tB x) (tI x)

theorem and15 (x : Int) (h0 : 0 ≤ x) (h1 : x < 4294967296) : bits .and .u32 x 15 = x % 16 := by
  obtain ⟨n, rfl⟩ := Int.eq_ofNat_of_zero_le h0
  rw [show (15 : Int) = ((15 : Nat) : Int) from rfl, u32_and_nat n 15 (by omega) (by omega), nat_mask4]
  omega
theorem wrap_i16 (x : Int) (h0 : 0 ≤ x) (h1 : x < 65536) : IntKind.i16.wrap x = if 32767 < x then x - 65536 else x := by
  simp [IntKind.wrap, IntKind.bits, IntKind.signed]
  omega

theorem t_eqs (x : Int) (h0 : 0 ≤ x) (h1 : x < 4294967296) :
    (x / 16777216 = tOp x ∧ bits .and .u32 (x / 1048576) 15 = tA x ∧ bits .and .u32 (x / 65536) 15 = tB x ∧ IntKind.i16.wrap (IntKind.u16.wrap x) = tI x) ∧
    (0 ≤ tOp x ∧ tOp x ≤ 255 ∧ 0 ≤ tA x ∧ tA x ≤ 15 ∧ 0 ≤ tB x ∧ tB x ≤ 15 ∧ -32768 ≤ tI x ∧ tI x ≤ 32767) := by
  refine ⟨⟨rfl, ?_, ?_, ?_⟩, ?_⟩
  · rw [and15 _ (by omega) (by omega)]; rfl
  · rw [and15 _ (by omega) (by omega)]; rfl
  · rw [IntKind.wrap_u16, wrap_i16 _ (by omega) (by omega)]; rfl
  · unfold tOp tA tB tI; omega

theorem rt_eqs (x : Int) (h0 : 0 ≤ x) (h1 : x < 4294967296) :
    x / 16777216 = tOp x ∧ x / 1048576 % 16 = tA x ∧ x / 65536 % 16 = tB x ∧ ((32767 < x % 65536 → x % 65536 - 65536 = tI x) ∧ (¬ 32767 < x % 65536 → x % 65536 = tI x)) ∧
    0 ≤ tOp x ∧ tOp x ≤ 255 ∧ 0 ≤ tA x ∧ tA x ≤ 15 ∧ 0 ≤ tB x ∧ tB x ≤ 15 ∧ -32768 ≤ tI x ∧ tI x ≤ 32767 :=
  ⟨rfl, rfl, rfl, ⟨fun h => by unfold tI; rw [if_pos h], fun h => by unfold tI; rw [if_neg h]⟩, (t_eqs x h0 h1).2⟩

end Go.Proofs.YtijjamiidpikdaaDoor.Isa
