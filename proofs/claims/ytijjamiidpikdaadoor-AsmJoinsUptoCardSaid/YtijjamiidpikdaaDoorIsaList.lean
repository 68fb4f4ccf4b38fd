/-
  Programs as lists of instructions, and as bytes: the plain law. Conditions: none.
-/
import Derived.Test.YtijjamiidpikdaaDoorIsaPlain
namespace Go.Proofs.YtijjamiidpikdaaDoor.Isa
open Go.RowKit

/-- an instruction: Op, A, B, Imm -/
abbrev Ins := Int × Int × Int × Int
def cellsI (l : List Ins) : List Value := l.flatMap fun i => [.int .i64 i.1, .int .i64 i.2.1, .int .i64 i.2.2.1, .int .i64 i.2.2.2]
theorem cellsI_length (l : List Ins) : (cellsI l).length = l.length * 4 := by
  unfold cellsI
  induction l with
  | nil => rfl
  | cons m ms ih => simp only [List.flatMap_cons, List.length_append, List.length_cons, List.length_nil, ih]; omega
theorem cellsI_append (k l : List Ins) : cellsI (k ++ l) = cellsI k ++ cellsI l := by simp [cellsI]
theorem cellsI_get (l : List Ins) : ∀ (k : Nat) (i : Ins), l[k]? = some i → (cellsI l)[k * 4]? = some (.int .i64 i.1) ∧ (cellsI l)[k * 4 + 1]? = some (.int .i64 i.2.1) ∧ (cellsI l)[k * 4 + 2]? = some (.int .i64 i.2.2.1) ∧ (cellsI l)[k * 4 + 3]? = some (.int .i64 i.2.2.2) := by
  induction l with
  | nil => intro k i h; simp at h
  | cons x l ih =>
    intro k i h
    have e : cellsI (x :: l) = [.int .i64 x.1, .int .i64 x.2.1, .int .i64 x.2.2.1, .int .i64 x.2.2.2] ++ cellsI l := by simp [cellsI]
    rw [e]
    cases k with
    | zero => simp at h; subst h; exact ⟨rfl, rfl, rfl, rfl⟩
    | succ k =>
      have := ih k i (by simpa using h)
      have s : ∀ r, ([.int .i64 x.1, .int .i64 x.2.1, .int .i64 x.2.2.1, .int .i64 x.2.2.2] ++ cellsI l)[(k + 1) * 4 + r]? = (cellsI l)[k * 4 + r]? := fun r => by
        rw [List.getElem?_append_right (by simp; omega)]
        congr 1
        simp
        omega
      exact ⟨(s 0).trans this.1, (s 1).trans this.2.1, (s 2).trans this.2.2.1, (s 3).trans this.2.2.2⟩
theorem cellsI_one (l : List Ins) : ∀ u ∈ cellsI l, u.oneCell' = true := by
  intro u hu
  unfold cellsI at hu
  rw [List.mem_flatMap] at hu
  obtain ⟨m, _, hm⟩ := hu
  simp at hm
  rcases hm with rfl | rfl | rfl | rfl <;> rfl

def mayI (i : Ins) : Bool := mayB i.1 i.2.1 i.2.2.1 i.2.2.2
def wordI (i : Ins) : Int := wordN i.1 i.2.1 i.2.2.1 i.2.2.2
/-- a word's four bytes, the lowest first -/
def four (x : Int) : List UInt8 := [UInt8.ofNat (x % 256).toNat, UInt8.ofNat (x / 256 % 256).toNat, UInt8.ofNat (x / 65536 % 256).toNat, UInt8.ofNat (x / 16777216 % 256).toNat]
/-- a program's bytes -/
def bytesI (l : List Ins) : List UInt8 := l.flatMap fun i => four (wordI i)
/-- the word at a place -/
def wordAt (s : List UInt8) (k : Nat) : Int := (s.getD k 0).toNat + 256 * (s.getD (k + 1) 0).toNat + 65536 * (s.getD (k + 2) 0).toNat + 16777216 * (s.getD (k + 3) 0).toNat
def insOf (x : Int) : Ins := (tOp x, tA x, tB x, tI x)
/-- the first k instructions of bytes -/
def backL (s : List UInt8) (k : Nat) : List Ins := (List.range k).map fun j => insOf (wordAt s (j * 4))
/-- are the first k words instructions' -/
def allW (s : List UInt8) (k : Nat) : Prop := ∀ j, j < k → isW (wordAt s (j * 4)) = true

theorem wrap_u32_id (n : Int) (h0 : 0 ≤ n) (h1 : n < 4294967296) : IntKind.u32.wrap n = n := by rw [IntKind.wrap_u32']; omega
theorem getD_byte (s : ByteArray) (p : Nat) (h : p < s.size) : s.data.toList.getD p 0 = s[p] := by
  have h' : p < s.data.toList.length := by simpa using h
  rw [List.getD_eq_getElem?_getD, List.getElem?_eq_getElem h']
  rfl
theorem or4 (s : ByteArray) (p : Nat) (h0 : p < s.size) (h1 : p + 1 < s.size) (h2 : p + 2 < s.size) (h3 : p + 3 < s.size) :
    bits .or .u32 (bits .or .u32 (bits .or .u32 (IntKind.u32.wrap (s[p].toNat : Int)) (IntKind.u32.wrap (IntKind.u32.wrap (s[p + 1].toNat : Int) * 256))) (IntKind.u32.wrap (IntKind.u32.wrap (s[p + 2].toNat : Int) * 65536)))
      (IntKind.u32.wrap (IntKind.u32.wrap (s[p + 3].toNat : Int) * 16777216)) = wordAt s.data.toList p := by
  unfold wordAt
  rw [getD_byte s p h0, getD_byte s (p + 1) h1, getD_byte s (p + 2) h2, getD_byte s (p + 3) h3]
  generalize s[p] = a
  generalize s[p + 1] = b
  generalize s[p + 2] = c
  generalize s[p + 3] = d
  have ha := a.toNat_lt
  have hb := b.toNat_lt
  have hc := c.toNat_lt
  have hd := d.toNat_lt
  generalize a.toNat = x at *
  generalize b.toNat = y at *
  generalize c.toNat = z at *
  generalize d.toNat = t at *
  rw [wrap_u32_id (x : Int) (by omega) (by omega), wrap_u32_id (y : Int) (by omega) (by omega), wrap_u32_id (z : Int) (by omega) (by omega), wrap_u32_id (t : Int) (by omega) (by omega),
    wrap_u32_id ((y : Int) * 256) (by omega) (by omega), wrap_u32_id ((z : Int) * 65536) (by omega) (by omega), wrap_u32_id ((t : Int) * 16777216) (by omega) (by omega)]
  have o1 : bits .or .u32 (x : Int) ((y : Int) * 256) = ((y * 256 + x : Nat) : Int) := by
    rw [show ((y : Int) * 256) = ((y * 256 : Nat) : Int) by omega, u32_or_nat x (y * 256) (by omega) (by omega), Nat.or_comm, nat_join 8 _ _ (by omega) (by omega)]
  have o2 : bits .or .u32 ((y * 256 + x : Nat) : Int) ((z : Int) * 65536) = ((z * 65536 + (y * 256 + x) : Nat) : Int) := by
    rw [show ((z : Int) * 65536) = ((z * 65536 : Nat) : Int) by omega, u32_or_nat (y * 256 + x) (z * 65536) (by omega) (by omega), Nat.or_comm, nat_join 16 _ _ (by omega) (by omega)]
  have o3 : bits .or .u32 ((z * 65536 + (y * 256 + x) : Nat) : Int) ((t : Int) * 16777216) = ((t * 16777216 + (z * 65536 + (y * 256 + x)) : Nat) : Int) := by
    rw [show ((t : Int) * 16777216) = ((t * 16777216 : Nat) : Int) by omega, u32_or_nat (z * 65536 + (y * 256 + x)) (t * 16777216) (by omega) (by omega), Nat.or_comm, nat_join 24 _ _ (by omega) (by omega)]
  rw [o1, o2, o3]
  omega
theorem wordAt_range (s : List UInt8) (k : Nat) : 0 ≤ wordAt s k ∧ wordAt s k < 4294967296 := by
  unfold wordAt
  have h1 := (s.getD k 0).toNat_lt
  have h2 := (s.getD (k + 1) 0).toNat_lt
  have h3 := (s.getD (k + 2) 0).toNat_lt
  have h4 := (s.getD (k + 3) 0).toNat_lt
  omega
theorem backL_succ (s : List UInt8) (k : Nat) : backL s (k + 1) = backL s k ++ [insOf (wordAt s (k * 4))] := by
  unfold backL
  rw [List.range_succ, List.map_append]
  rfl
theorem backL_length (s : List UInt8) (k : Nat) : (backL s k).length = k := by simp [backL]
/-- the same, as a test -/
def allB (s : List UInt8) (k : Nat) : Bool := (List.range k).all fun j => isW (wordAt s (j * 4))
theorem allB_of {s : List UInt8} {k : Nat} (h : allW s k) : allB s k = true := by
  unfold allB
  rw [List.all_eq_true]
  intro j hj
  exact h j (by simpa using hj)
theorem allB_at {s : List UInt8} {k j : Nat} (h : allB s k = true) (hj : j < k) : isW (wordAt s (j * 4)) = true := by
  unfold allB at h
  rw [List.all_eq_true] at h
  exact h j (by simpa using hj)

end Go.Proofs.YtijjamiidpikdaaDoor.Isa
