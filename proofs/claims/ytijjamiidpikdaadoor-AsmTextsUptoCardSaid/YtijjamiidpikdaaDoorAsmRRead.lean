/-
  The walk of the reference's Read: the program of a text. Conditions: at most 2097152 bytes.
-/
import Derived.Test.YtijjamiidpikdaaDoorAsmRead
import Derived.Test.YtijjamiidpikdaaDoorAsmRParse
namespace Go.Proofs.YtijjamiidpikdaaDoor.Asm
open Go.RowKit Go.Proofs.YtijjamiidpikdaaDoor.Isa

theorem no10_next {l : List UInt8} {p q : Nat} (hpq : p ≤ q) (hq : q < l.length) (h : ∀ c ∈ (l.drop p).take (q - p), c ≠ 10) (hc : l[q] ≠ 10) : ∀ c ∈ (l.drop p).take (q + 1 - p), c ≠ 10 := by
  have e : (l.drop p).take (q + 1 - p) = (l.drop p).take (q - p) ++ [l[q]] := by
    rw [show q + 1 - p = (q - p) + 1 by omega, List.take_add_one]
    congr 1
    rw [List.getElem?_drop, show p + (q - p) = q by omega, List.getElem?_eq_getElem hq]
    rfl
  rw [e]
  intro c hm
  rcases List.mem_append.1 hm with hm | hm
  · exact h c hm
  · rw [List.mem_singleton] at hm; subst hm; exact hc

set_option maxRecDepth 100000 in
set_option maxHeartbeats 4000000 in
theorem rread_any (l : List UInt8) (hl : l.length ≤ 2097152) (w : World) :
    Calls Tryd.prog 20 #[.string ⟨l.toArray⟩] w fun e w' => ∃ A n c, e = .returned (.tuple #[.slice A n c, .int .i64 (readN l : Int), .int .i64 (readE l)]) ∧ n = (readL l).length ∧ RdC w' 4 A n c (cellsI (readL l)) ∧ Below w.heap.size w w' := by
  obtain ⟨i0x, hi, hz0, hz1, hz2⟩ := info_parts infoIns
  go_enter Tryd.func20, Tryd.ntmps20
  go_wp2
  go_loopw [5, 6, 7] (fun v pv qv wr => ∃ (p q : Nat) (k : List Ins) (V : Value), V = v ∧ pv = .int .i64 (p : Int) ∧ qv = .int .i64 (q : Int) ∧ p ≤ q ∧ q ≤ l.length ∧ k.length ≤ p ∧ Hid (RP l k (l.drop p)) ∧ Hid (∀ c ∈ (l.drop p).take (q - p), c ≠ 10) ∧ Hid (wr.ownsRow w.heap.size 27 4 v k.length (cellsI k)) ∧ Hid (Below w.heap.size w wr)) (fun _ _ qv _ => l.length - (intOf qv).toNat)
  case atStart => exact ⟨0, 0, [], _, rfl, rfl, rfl, Nat.le_refl _, Nat.zero_le _, Nat.zero_le _, rp_start l, (by intro c hc; simp at hc), World.ownsRow_nil w _ _ _, Below.refl _ _⟩
  case round =>
    obtain ⟨p, q, k, V, rfl, rfl, rfl, hpq, hq, hkp, hP, hD, hO, hB⟩ := hrel
    have p0 : (0 : Int) ≤ (p : Int) := Int.natCast_nonneg _
    have q0 : (0 : Int) ≤ (q : Int) := Int.natCast_nonneg _
    have pq : (p : Int) ≤ (q : Int) := by omega
    have hsz := hB.out.size
    obtain ⟨A, c, hv, hR, hBw⟩ := insrow_fin hO.out hB.out
    have hFin := hide (And.intro hR hBw)
    clear hR hBw
    by_cases hlt : q < l.length
    · have q1 : (q : Int) < (l.length : Int) := by omega
      have hbk : (⟨l.toArray⟩ : ByteArray)[q]'(by exact hlt) = l[q]'hlt := rfl
      by_cases hc : l[q]'hlt = 10
      · have t1 : ((((⟨l.toArray⟩ : ByteArray)[q]'(by exact hlt)).toNat : Int) == 10) = true := by rw [hbk, hc]; rfl
        have hdt := drop_take l hpq hlt
        rw [hc] at hdt
        have HDT := hide hdt
        have hxl : ((l.drop p).take (q - p)).length ≤ 2097152 := by rw [List.length_take, List.length_drop]; omega
        have HXL := hide hxl
        clear hc hbk hdt hxl
        go_wp2_with fail
        rw [ext_mid]
        refine (rparse_any ((l.drop p).take (q - p)) HXL.out _).mono ?_
        rintro e w2 ⟨rfl, hb⟩
        have hO2 := hide (own_keep hO.out hb)
        have hB2 := hide (hB.out.trans (hb.mono hB.out.size))
        clear hb hO hB hFin
        rw [← parse_same]
        cases hp : parseA ((l.drop p).take (q - p)) with
        | none =>
          have hE := hide (rp_bad (s := l) (k := k) (t := l.drop (q + 1)) (by rw [← HDT.out]; exact hP.out) hD.out hp)
          clear hp hP HDT
          rw [show insV none = .agg #[.int .i64 0, .int .i64 0, .int .i64 0, .int .i64 0] from rfl, show insE none = 3 from rfl]
          subst hv
          go_wp2_with fail
          go_ret3
          rw [hE.out.1, hE.out.2.1, hE.out.2.2]
          exact ⟨none, 0, 0, rfl, rfl, RdC.nil _ _, hB2.out.alloc hB2.out.size _⟩
        | some pr =>
          obtain ⟨op, a, b, im⟩ := pr
          have hN := hide (rp_step (s := l) (k := k) (t := l.drop (q + 1)) (by rw [← HDT.out]; exact hP.out) hD.out hp)
          clear hp hP HDT hv
          rw [show insV (some (op, a, b, im)) = .agg #[.int .i64 (op : Int), .int .i64 a, .int .i64 b, .int .i64 im] from rfl, show insE (some (op, a, b, im)) = 0 from rfl]
          go_upto_region 8 with fail
          obtain ⟨y0, y1, y2, y3⟩ := (ic_new w2 op a b im).cells
          have hO := hide (hO2.out.alloc (.cells #[.int .i64 (op : Int), .int .i64 a, .int .i64 b, .int .i64 im] 27))
          have hB := hide (hB2.out.alloc hB2.out.size (.cells #[.int .i64 (op : Int), .int .i64 a, .int .i64 b, .int .i64 im] 27))
          have hsX : w.heap.size ≤ (w2.alloc (.cells #[.int .i64 (op : Int), .int .i64 a, .int .i64 b, .int .i64 im] 27)).heap.size := hB.out.size
          clear hO2 hB2 hsz
          generalize (w2.alloc (.cells #[.int .i64 (op : Int), .int .i64 a, .int .i64 b, .int .i64 im] 27)) = X at y0 y1 y2 y3 hO hB hsX ⊢
          generalize w2.heap.size = Bi at y0 y1 y2 y3 ⊢
          go_wp2_with (at_builtin; refine wpList_append_rd rfl (.tmp 33) (.tmp 35) 39 rfl w.heap.size 27 i0x _ 4 32 Tryd.underlying39 hi hz0 hz1 hz2 rfl (by omega) V k.length (cellsI k) rfl (hO.out.alloc _) (some ⟨X.heap.size, 0, none⟩) 1 1 [.int .i64 (op : Int), .int .i64 a, .int .i64 b, .int .i64 im] rfl ?c1 (one_ins _ _ _ _) ?c2 ?c3 ?c4 ?_)
          case c1 => exact rdC_ins (by go_simp) (by go_simp) (by go_simp) (by go_simp)
          case c2 => unfold maxLen; omega
          case c3 => omega
          case c4 => simp; omega
          intro v' x2 hAp
          have hO2 := hide (show x2.ownsRow w.heap.size 27 4 v' (k ++ [insI (op, a, b, im)]).length (cellsI (k ++ [insI (op, a, b, im)])) from by rw [cellsI_append, List.length_append]; exact hAp.own)
          have hB2 := hide (hAp.below (hO.out.alloc _) (hB.out.alloc hB.out.size _) (Nat.le_refl _) (by simp; omega))
          clear hAp hO hB y0 y1 y2 y3
          go_wp2
          go_roundw
          case rel => exact ⟨q + 1, q + 1, k ++ [insI (op, a, b, im)], _, rfl, by go_num, by go_num, Nat.le_refl _, by omega, by simp; omega, hN, (by rw [Nat.sub_self]; intro c hc; simp at hc), hO2, hB2⟩
          case measure => simp [intOf]; omega
      · have t1 : ((((⟨l.toArray⟩ : ByteArray)[q]'(by exact hlt)).toNat : Int) == 10) = false := byte_ne (c := (⟨l.toArray⟩ : ByteArray)[q]'(by exact hlt)) (d := 10) (by rw [hbk]; exact hc)
        have hD2 := hide (no10_next hpq hlt hD.out hc)
        clear hc hbk hv hFin
        go_wp2
        go_roundw
        case rel => exact ⟨p, q + 1, k, V, rfl, rfl, by go_num, by omega, by omega, hkp, hP, hD2, hO, hB⟩
        case measure => simp [intOf]; omega
    · obtain rfl : q = l.length := by omega
      subst hv
      by_cases hpl : p < l.length
      · have p1 : (p : Int) < (l.length : Int) := by omega
        have hE := hide (rp_tail hP.out (by have h := hD.out; rwa [List.take_of_length_le (by rw [List.length_drop]; exact Nat.le_refl _)] at h) (by intro e; have := congrArg List.length e; rw [List.length_drop] at this; simp at this; omega))
        clear hP
        go_wp2_with fail
        go_ret3
        rw [hE.out.1, hE.out.2.1, hE.out.2.2]
        exact ⟨none, 0, 0, rfl, rfl, RdC.nil _ _, hB.out⟩
      · have p1 : ¬ (p : Int) < (l.length : Int) := by omega
        have hE := hide (rp_end (s := l) (k := k) (by have h := hP.out; rwa [List.drop_of_length_le (by omega)] at h))
        clear hP
        go_wp2_with fail
        go_ret3
        rw [hE.out.1, hE.out.2.1, hE.out.2.2]
        exact ⟨A, _, c, rfl, rfl, hFin.out.1, hFin.out.2⟩

end Go.Proofs.YtijjamiidpikdaaDoor.Asm
