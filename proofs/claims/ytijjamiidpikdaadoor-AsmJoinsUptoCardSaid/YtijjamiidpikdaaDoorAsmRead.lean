/-
  The walk of asm.Read: the program of a text. Conditions: the tables as laid; at most 2097152 bytes.
-/
import Derived.Test.YtijjamiidpikdaaDoorAsmReadPlain
import Derived.Test.YtijjamiidpikdaaDoorAsmInsRow
import Derived.Test.YtijjamiidpikdaaDoorAsmParse
import Derived.Test.YtijjamiidpikdaaDoorAsmIndex
namespace Go.Proofs.YtijjamiidpikdaaDoor.Asm
open Go.RowKit Go.Proofs.YtijjamiidpikdaaDoor.Isa

def strLen : Value → Nat
  | .string s => s.size
  | _ => 0
theorem insrow_fin {w wr : World} {v : Value} {k : List Ins} (hO : wr.ownsRow w.heap.size 27 4 v k.length (cellsI k)) (hB : Below w.heap.size w wr) :
    ∃ A c, v = .slice A k.length c ∧ RdC wr 4 A k.length c (cellsI k) ∧ Below w.heap.size w wr := by
  obtain ⟨A, c, e, _⟩ := own_slice hO
  refine ⟨A, c, e, ?_, hB⟩
  rw [e] at hO
  exact RdC.of_own hO

set_option maxRecDepth 100000 in
set_option maxHeartbeats 4000000 in
theorem read_any (l : List UInt8) (hl : l.length ≤ 2097152) (w : World) (hT : Tabs w) :
    Calls Tryd.prog 17 #[.string ⟨l.toArray⟩] w fun e w' => ∃ A n c, e = .returned (.tuple #[.slice A n c, .int .i64 (readN l : Int), .int .i64 (readE l)]) ∧ n = (readL l).length ∧ RdC w' 4 A n c (cellsI (readL l)) ∧ Below w.heap.size w w' := by
  have hT' := Lib.hid hT
  clear hT
  obtain ⟨i0x, hi, hz0, hz1, hz2⟩ := info_parts infoIns
  go_enter Tryd.func17, Tryd.ntmps17
  go_wp2
  go_loopw [0, 5, 6] (fun sv v nv wr => ∃ (t : List UInt8) (k : List Ins) (V : Value), V = v ∧ sv = .string ⟨t.toArray⟩ ∧ nv = .int .i64 (k.length : Int) ∧ k.length + t.length ≤ l.length ∧ Hid (RP l k t) ∧ Hid (wr.ownsRow w.heap.size 27 4 v k.length (cellsI k)) ∧ Hid (Below w.heap.size w wr)) (fun sv _ _ _ => strLen sv)
  case atStart => exact ⟨l, [], _, rfl, rfl, rfl, by simp, rp_start l, World.ownsRow_nil w _ _ _, Below.refl _ _⟩
  case round =>
    obtain ⟨t, k, V, rfl, rfl, rfl, hkt, hP, hO, hB⟩ := hrel
    have k0 : (0 : Int) ≤ (k.length : Int) := Int.natCast_nonneg _
    have hsz := hB.out.size
    by_cases ht : t = []
    · subst ht
      have hE := hide (rp_end hP.out)
      clear hP
      go_wp2_with fail
      go_ret3
      obtain ⟨A, c, e, hR, hBw⟩ := insrow_fin hO.out hB.out
      subst e
      rw [hE.out.1, hE.out.2.1, hE.out.2.2]
      exact ⟨A, _, c, rfl, rfl, hR, hBw⟩
    · have hte : t.isEmpty = false := by simpa using ht
      have htl := hide (show t.length ≤ maxLen from by unfold maxLen; omega)
      rcases first_byte 10 t with h | ⟨x, t', rfl, h⟩
      · have hE := hide (rp_tail hP.out h ht)
        have hC := hide (cutC_none h)
        have hl2 := hide (show t.length ≤ 2097152 by omega)
        clear hP h ht
        go_wp2_with fail
        refine (cut_any 10 t _ htl.out).mono ?_
        rintro e w1 ⟨rfl, hb⟩
        have hB1 := hide (hB.out.trans (hb.mono hB.out.size))
        clear hb
        rw [hC.out]
        go_wp2_with fail
        refine (parse_any t hl2.out _ (hT'.out.below hB1.out)).mono ?_
        rintro e w2 ⟨rfl, hb⟩
        have hB2 := hide (hB1.out.trans (hb.mono hB1.out.size))
        clear hb
        cases hp : parseA t with
        | none =>
          have HP := hide hp
          clear hp
          rw [show insV none = .agg #[.int .i64 0, .int .i64 0, .int .i64 0, .int .i64 0] from rfl, show insE none = 3 from rfl]
          go_wp2_with fail
          go_ret3
          rw [hE.out.1, hE.out.2.1, hE.out.2.2]
          exact ⟨none, 0, 0, rfl, rfl, RdC.nil _ _, hB2.out.alloc hB2.out.size _⟩
        | some p =>
          obtain ⟨op, a, b, im⟩ := p
          have HP := hide hp
          clear hp
          rw [show insV (some (op, a, b, im)) = .agg #[.int .i64 (op : Int), .int .i64 a, .int .i64 b, .int .i64 im] from rfl, show insE (some (op, a, b, im)) = 0 from rfl]
          go_wp2_with fail
          go_ret3
          rw [hE.out.1, hE.out.2.1, hE.out.2.2]
          exact ⟨none, 0, 0, rfl, rfl, RdC.nil _ _, hB2.out.alloc hB2.out.size _⟩
      · have hC := hide (cutC_word (c := 10) (t := t') h)
        simp only [List.length_append, List.length_cons] at hkt
        have hl2 := hide (show x.length ≤ 2097152 by omega)
        have hh := hide h
        clear h ht
        go_wp2_with fail
        refine (cut_any 10 (x ++ 10 :: t') _ htl.out).mono ?_
        rintro e w1 ⟨rfl, hb⟩
        have hO1 := hide (own_keep hO.out hb)
        have hB1 := hide (hB.out.trans (hb.mono hB.out.size))
        clear hb
        rw [hC.out]
        go_wp2_with fail
        refine (parse_any x hl2.out _ (hT'.out.below hB1.out)).mono ?_
        rintro e w2 ⟨rfl, hb⟩
        have hO2 := hide (own_keep hO1.out hb)
        have hB2 := hide (hB1.out.trans (hb.mono hB1.out.size))
        clear hb hO1 hB1 hO hB
        cases hp : parseA x with
        | none =>
          have hE := hide (rp_bad hP.out hh.out hp)
          clear hp hP
          rw [show insV none = .agg #[.int .i64 0, .int .i64 0, .int .i64 0, .int .i64 0] from rfl, show insE none = 3 from rfl]
          go_wp2_with fail
          go_ret3
          rw [hE.out.1, hE.out.2.1, hE.out.2.2]
          exact ⟨none, 0, 0, rfl, rfl, RdC.nil _ _, hB2.out.alloc hB2.out.size _⟩
        | some p =>
          obtain ⟨op, a, b, im⟩ := p
          have hN := hide (rp_step hP.out hh.out hp)
          clear hp hP
          rw [show insV (some (op, a, b, im)) = .agg #[.int .i64 (op : Int), .int .i64 a, .int .i64 b, .int .i64 im] from rfl, show insE (some (op, a, b, im)) = 0 from rfl]
          go_upto_region 6 with fail
          obtain ⟨y0, y1, y2, y3⟩ := (ic_new w2 op a b im).cells
          have hO := hide (hO2.out.alloc (.cells #[.int .i64 (op : Int), .int .i64 a, .int .i64 b, .int .i64 im] 27))
          have hB := hide (hB2.out.alloc hB2.out.size (.cells #[.int .i64 (op : Int), .int .i64 a, .int .i64 b, .int .i64 im] 27))
          have hsX : w.heap.size ≤ (w2.alloc (.cells #[.int .i64 (op : Int), .int .i64 a, .int .i64 b, .int .i64 im] 27)).heap.size := hB.out.size
          clear hO2 hB2 hsz
          generalize (w2.alloc (.cells #[.int .i64 (op : Int), .int .i64 a, .int .i64 b, .int .i64 im] 27)) = X at y0 y1 y2 y3 hO hB hsX ⊢
          generalize w2.heap.size = Bi at y0 y1 y2 y3 ⊢
          go_wp2_with (at_builtin; refine wpList_append_rd rfl (.tmp 31) (.tmp 33) 39 rfl w.heap.size 27 i0x _ 4 32 Tryd.underlying39 hi hz0 hz1 hz2 rfl (by omega) V k.length (cellsI k) rfl (hO.out.alloc _) (some ⟨X.heap.size, 0, none⟩) 1 1 [.int .i64 (op : Int), .int .i64 a, .int .i64 b, .int .i64 im] rfl ?c1 (one_ins _ _ _ _) ?c2 ?c3 ?c4 ?_)
          case c1 => exact rdC_ins (by go_simp) (by go_simp) (by go_simp) (by go_simp)
          case c2 => unfold maxLen; omega
          case c3 => omega
          case c4 => simp; omega
          intro v' x2 hAp
          have hO2 := hide (show x2.ownsRow w.heap.size 27 4 v' (k ++ [insI (op, a, b, im)]).length (cellsI (k ++ [insI (op, a, b, im)])) from by rw [cellsI_append, List.length_append]; exact hAp.own)
          have hB2 := hide (hAp.below (hO.out.alloc _) (hB.out.alloc hB.out.size _) (Nat.le_refl _) (by simp; omega))
          clear hAp hO hB y0 y1 y2 y3
          go_wp2
          go_roundw
          case rel => exact ⟨t', k ++ [insI (op, a, b, im)], _, rfl, rfl, by simp, by simp; omega, hN, hO2, hB2⟩
          case measure => exact (show t'.length < (x ++ 10 :: t').length by simp; omega)

end Go.Proofs.YtijjamiidpikdaaDoor.Asm
