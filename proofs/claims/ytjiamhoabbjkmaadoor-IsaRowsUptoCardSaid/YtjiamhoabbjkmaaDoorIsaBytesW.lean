/-
  The walk of isa.Bytes: a program's bytes. Conditions: the table isa.uses as laid; at most 1048576 instructions.
-/
import Derived.Test.YtjiamhoabbjkmaaDoorRow
import Derived.Test.YtjiamhoabbjkmaaDoorBuilder
import Derived.Test.YtjiamhoabbjkmaaDoorIsaList
import Derived.Test.YtjiamhoabbjkmaaDoorIsaWord
import Derived.LoopTactic
import Derived.Deep.LoopGhost
import Derived.Outline
import Derived.IntWalk
namespace Go.Proofs.YtjiamhoabbjkmaaDoor.Isa
open Go.RowKit

/-- what of a word is left behind m bytes -/
def dv (x : Int) (m : Nat) : Int := x / 256 ^ m
theorem dv_zero (x : Int) : dv x 0 = x := by simp [dv]
theorem dv_succ (x : Int) (m : Nat) : dv x m / 256 = dv x (m + 1) := by
  unfold dv
  rw [Int.ediv_ediv_of_nonneg (by exact Int.pow_nonneg (by decide)), Int.pow_succ]
theorem dv_range {x : Int} (h0 : 0 ≤ x) (h1 : x < 4294967296) (m : Nat) : 0 ≤ dv x m ∧ dv x m < 4294967296 := by
  unfold dv
  refine ⟨Int.ediv_nonneg h0 (Int.pow_nonneg (by decide)), Int.lt_of_le_of_lt (Int.ediv_le_self _ h0) h1⟩

theorem isB_below {B b : Nat} {bs : List Value} {w w' : World} (h : IsB B b bs w) (hb : Below w.heap.size w w') : IsB B b bs w' := by
  have key : ∀ p, Lib.BuilderAtF 59 5 B b p bs w → Lib.BuilderAtF 59 5 B b p bs w' := by
    rintro p ⟨hB, v, hh, hown, hne⟩
    have lt : ∀ {k : Nat} {o : Obj}, w.heap[k]? = some o → k < w.heap.size := fun {k} {o} h => by
      rcases Nat.lt_or_ge k w.heap.size with h' | h'
      · exact h'
      · rw [Array.getElem?_eq_none h'] at h; cases h
    refine ⟨hB, v, by rw [hb.block b (lt hh)]; exact hh, ?_, hne⟩
    obtain ⟨h1, h2⟩ := hown
    refine ⟨h1, ?_⟩
    rcases h2 with ⟨hv, h0⟩ | ⟨g, cap, cur, fz, hv, hg, hgh, rest⟩
    · exact .inl ⟨hv, h0⟩
    · exact .inr ⟨g, cap, cur, fz, hv, hg, by rw [hb.block g (lt hgh)]; exact hgh, rest⟩
  exact h.elim (fun h => .inl (key _ h)) (fun h => .inr (key _ h))

/-- may the first k instructions be -/
def allM (l : List Ins) (k : Nat) : Prop := ∀ j i, j < k → l[j]? = some i → mayI i = true
/-- what comes of a program: an error, or none; its bytes -/
def bytesE (l : List Ins) : Int := if l.all mayI = true then 0 else 1
def bytesR (l : List Ins) : ByteArray := if bytesE l = 0 then ⟨(bytesI l).toArray⟩ else ⟨#[]⟩
theorem bytesE_no {l : List Ins} {k : Nat} {i : Ins} (hk : l[k]? = some i) (h : mayI i = false) : bytesE l = 1 := by
  unfold bytesE
  rw [if_neg]
  intro ha
  rw [List.all_eq_true] at ha
  have := ha i (List.mem_of_getElem? hk)
  rw [h] at this
  cases this
theorem bytesE_yes {l : List Ins} (h : allM l l.length) : bytesE l = 0 := by
  unfold bytesE
  rw [if_pos]
  rw [List.all_eq_true]
  intro i hi
  obtain ⟨j, hj⟩ := List.mem_iff_getElem?.1 hi
  exact h j i (List.getElem?_eq_some_iff.1 hj).1 hj
theorem bytesI_length (l : List Ins) : (bytesI l).length = 4 * l.length := by
  unfold bytesI
  induction l with
  | nil => rfl
  | cons x l ih => simp only [List.flatMap_cons, List.length_append, ih, List.length_cons]; simp [four]; omega
theorem bytesI_take (l : List Ins) {k : Nat} {i : Ins} (hk : l[k]? = some i) : bytesI (l.take (k + 1)) = bytesI (l.take k) ++ four (wordI i) := by
  unfold bytesI
  rw [List.take_add_one, hk]
  simp
/-- one byte more -/
theorem four_snoc (p : List UInt8) (x : Int) (m : Nat) (hm : m < 4) (h0 : 0 ≤ x) :
    Lib.byteCells (p ++ (four x).take m) ++ [.int .u8 (dv x m % 256)] = Lib.byteCells (p ++ (four x).take (m + 1)) := by
  have key : ∀ y : Int, 0 ≤ y → ((UInt8.ofNat (y % 256).toNat).toNat : Int) = y % 256 := fun y hy => by
    simp
    omega
  have e : [Value.int .u8 (dv x m % 256)] = Lib.byteCells [UInt8.ofNat (dv x m % 256).toNat] := by
    have := key (dv x m) (by unfold dv; exact Int.ediv_nonneg h0 (Int.pow_nonneg (by decide)))
    simp only [Lib.byteCells, List.map_cons, List.map_nil]
    rw [this]
  rw [e, ← Lib.byteCells_append, List.append_assoc]
  congr 2
  match m, hm with
  | 0, _ => simp [four, dv]
  | 1, _ => simp [four, dv]
  | 2, _ => simp [four, dv]
  | 3, _ => simp [four, dv]

set_option maxHeartbeats 3200000 in
theorem bytes_any (A : Option Addr) (n c : Nat) (l : List Ins) (w : World) (hT : Tab w) (hR : RdC w 4 A n c (cellsI l)) (hl : l.length = n) (hn : n ≤ 1048576) :
    Calls Tryd.prog 19 #[.slice A n c] w fun e w' => e = .returned (.tuple #[.string (bytesR l), .int .i64 (bytesE l)]) ∧ Below w.heap.size w w' := by
  have hT' := hide hT
  have hR' := hide hR
  have hnc := hR.2.1
  have hcm : c ≤ 9223372036854775807 := hR.2.2.1
  have HL := hide hl
  clear hT hR hl
  go_enter Tryd.func19, Tryd.ntmps19
  go_wp2
  have hI0 : IsB w.heap.size w.heap.size [] (w.alloc (.cells #[.pointer none, .slice none 0 0] 59)) := isB_new (Nat.le_refl _) (heap_alloc_new _ _)
  go_loopw [11] (fun i wr => ∃ k : Nat, k ≤ n ∧ i = .int .i64 k ∧ Hid (allM l k) ∧ Hid (IsB w.heap.size w.heap.size (Lib.byteCells (bytesI (l.take k))) wr) ∧ Hid (Below w.heap.size w wr)) (fun i _ => n - (intOf i).toNat)
  case atStart => exact ⟨0, Nat.zero_le _, rfl, (fun j i hj => by omega), hI0, below_new _ _⟩
  case round =>
    obtain ⟨k, hk, rfl, hM, hI, hB⟩ := hrel
    clear hI0
    obtain ⟨wo, rfl⟩ : ∃ wo : World, wo = wr := ⟨_, rfl⟩
    by_cases hlt : k < n
    · have hk0 : (0 : Int) ≤ (k : Int) := Int.natCast_nonneg _
      have hk1 : (k : Int) < (n : Int) := by omega
      obtain ⟨b, o, rfl, hbl, hc⟩ := hR'.out.lit (by omega) (by omega)
      have hg : l[k]? = some (l[k]'(by rw [HL.out]; exact hlt)) := List.getElem?_eq_getElem _
      generalize l[k]'(by rw [HL.out]; exact hlt) = ins at hg
      obtain ⟨op, a, b', imm⟩ := ins
      obtain ⟨c0, c1, c2, c3⟩ := cellsI_get _ _ _ hg
      have c0 := (hB.out.cell (p := ⟨b, o + k * 4, none⟩) hbl).trans (hc _ _ c0)
      have c1 := (hB.out.cell (p := ⟨b, o + (k * 4 + 1), none⟩) hbl).trans (hc _ _ c1)
      have c2 := (hB.out.cell (p := ⟨b, o + (k * 4 + 2), none⟩) hbl).trans (hc _ _ c2)
      have c3 := (hB.out.cell (p := ⟨b, o + (k * 4 + 3), none⟩) hbl).trans (hc _ _ c3)
      simp only [← Nat.add_assoc] at c0 c1 c2 c3
      have HG := hide hg
      clear hg hc
      have hsw := hB.out.size
      by_cases hm : mayI (op, a, b', imm) = true
      · have hm' : mayB op a b' imm = true := hm
        have HM := hide hm'
        clear hm hm'
        go_wp2_with fail
        refine (word_ok op a b' imm _ (by exact hT'.out.below (hB.out.alloc hB.out.size _)) HM.out).mono ?_
        rintro e x1 ⟨rfl, hb⟩
        have hI1 := hide (isB_below (isB_below hI.out (below_new _ _)) hb)
        have hB1 := hide ((hB.out.alloc hB.out.size (.cells #[.int .i64 op, .int .i64 a, .int .i64 b', .int .i64 imm] 23)).trans (hb.mono (by simp; omega)))
        have hr := word_range (mayB_in HM.out)
        obtain ⟨hr0, hr1⟩ := hr
        have HX := hide (show wordN op a b' imm = wordI (op, a, b', imm) from rfl)
        generalize wordN op a b' imm = x at hr0 hr1 HX ⊢
        clear hb hI hB c0 c1 c2 c3
        go_wp2_with fail
        go_loopw [7, 23] (fun v j wi => ∃ m : Nat, m ≤ 4 ∧ j = .int .i64 m ∧ v = .int .u32 (dv x m) ∧ Hid (IsB w.heap.size w.heap.size (Lib.byteCells (bytesI (l.take k) ++ (four x).take m)) wi) ∧ Hid (Below w.heap.size w wi)) (fun _ j _ => 4 - (intOf j).toNat)
        case atStart => exact ⟨0, by omega, rfl, by rw [dv_zero], by simpa using hI1, hB1⟩
        case round =>
          obtain ⟨m, hm4, rfl, rfl, hI, hB⟩ := hrel
          clear hI1 hB1
          obtain ⟨d0, d1⟩ := dv_range hr0 hr1 m
          have hsw := hB.out.size
          by_cases hlt4 : m < 4
          · have hm0 : (m : Int) < 4 := by omega
            have hS := dv_succ x m
            have HS := hide hS
            clear hS
            go_wp2_with fail
            refine (b_byte w.heap.size w.heap.size (Lib.byteCells (bytesI (l.take k) ++ (four x).take m)) (dv x m % 256) _ hI.out (by
              rw [Lib.byteCells_length, List.length_append, bytesI_length, List.length_take, List.length_take]
              omega) hB.out.size).mono ?_
            rintro e x2 ⟨rfl, hI2, hb2, -⟩
            have hI3 := hide hI2
            have hB3 := hide (hB.out.trans hb2)
            clear hI2 hb2 hI hB
            go_wp2
            go_roundw
            case rel => exact ⟨m + 1, by omega, by go_num, by rw [← HS.out], hide (by rw [← four_snoc _ _ _ hlt4 hr0]; exact hI3.out), hB3⟩
            case measure => simp [intOf]; omega
          · have hm0 : ¬ (m : Int) < 4 := by omega
            obtain rfl : m = 4 := by omega
            go_wp2
            go_roundw
            case rel => exact ⟨k + 1, by omega, by go_num, hide (fun j i hj hi => by
              rcases Nat.lt_or_ge j k with h | h
              · exact hM.out j i h hi
              · have e : j = k := by omega
                subst e
                have e2 := HG.out.symm.trans hi
                injection e2 with e2
                subst e2
                exact HM.out), hide (by rw [bytesI_take l HG.out, ← HX.out]; exact hI.out), hB⟩
            case measure => simp [intOf]; omega
      · have hm' : mayB op a b' imm = false := by
          have : mayI (op, a, b', imm) = false := by simpa using hm
          exact this
        have HM := hide hm'
        clear hm hm'
        go_wp2_with fail
        refine (word_no op a b' imm _ (by exact hT'.out.below (hB.out.alloc hB.out.size _)) HM.out).mono ?_
        rintro e x1 ⟨rfl, hb⟩
        have hB1 := hide ((hB.out.alloc hB.out.size (.cells #[.int .i64 op, .int .i64 a, .int .i64 b', .int .i64 imm] 23)).trans (hb.mono (by simp; omega)))
        have hE := hide (bytesE_no HG.out HM.out)
        clear hb hI hB c0 c1 c2 c3
        go_wp2
        go_ret2
        refine ⟨?_, hB1.out⟩
        unfold bytesR
        rw [hE.out]
        rfl
    · have hkn : k = n := by omega
      subst hkn
      have hk1 : ¬ (k : Int) < (k : Int) := by omega
      have hE := hide (bytesE_yes (by rw [HL.out]; exact hM.out))
      go_wp2_with fail
      refine (b_string w.heap.size w.heap.size (bytesI (l.take k)) _ hI.out hB.out.size).mono ?_
      rintro e x1 ⟨rfl, hb⟩
      have hB1 := hide (hB.out.trans hb)
      clear hb hI hB
      go_wp2
      go_ret2
      refine ⟨?_, hB1.out⟩
      unfold bytesR
      rw [hE.out, List.take_of_length_le (by rw [HL.out]; exact Nat.le_refl _)]
      rfl

end Go.Proofs.YtjiamhoabbjkmaaDoor.Isa
