/-
  The walk of asm.Parse: it answers 'parseA'. Conditions: the tables as laid; at most 2097152 bytes.
-/
import Derived.Test.YtijjamiidpikdaaDoorAsmRange
import Derived.Test.YtijjamiidpikdaaDoorAsmParsePlain
import Derived.Test.YtijjamiidpikdaaDoorAsmLine
import Derived.Test.YtijjamiidpikdaaDoorAsmReg
import Derived.Deep.QuietTactic
import Derived.BigQuiet
import Derived.Deep.DeepCutAuto
import Derived.Deep.LoopGhost
import Derived.LoopTactic
import Derived.Outline
namespace Go.Proofs.YtijjamiidpikdaaDoor.Asm
open Go.RowKit Go.Shelf Go.Proofs.YtijjamiidpikdaaDoor.Isa
attribute [local go_sem] Oper.semAt_some

def insV : InsR → Value
  | some (op, a, b, i) => .agg #[.int .i64 (op : Int), .int .i64 a, .int .i64 b, .int .i64 i]
  | none => .agg #[.int .i64 0, .int .i64 0, .int .i64 0, .int .i64 0]
def insE : InsR → Int
  | some _ => 0
  | none => 3

/-- the instruction's own block -/
def IC (B : Nat) (op a b i : Int) (w : World) : Prop := w.heap[B]? = some (.cells #[.int .i64 op, .int .i64 a, .int .i64 b, .int .i64 i] 27 (0, 0))
theorem ic_new (w : World) (op a b i : Int) : IC w.heap.size op a b i (w.alloc (.cells #[.int .i64 op, .int .i64 a, .int .i64 b, .int .i64 i] 27)) := World.alloc_heap_new w _
section
variable {B : Nat} {op a b i : Int} {w w' : World}
theorem IC.lt (h : IC B op a b i w) : B < w.heap.size := (Array.getElem?_eq_some_iff.1 h).1
theorem IC.below (h : IC B op a b i w) (hb : Below w.heap.size w w') : IC B op a b i w' := (hb.block B h.lt).trans h
theorem IC.cells (h : IC B op a b i w) : w.cell? ⟨B, 0, none⟩ = some (.int .i64 op) ∧ w.cell? ⟨B, 1, none⟩ = some (.int .i64 a) ∧ w.cell? ⟨B, 2, none⟩ = some (.int .i64 b) ∧ w.cell? ⟨B, 3, none⟩ = some (.int .i64 i) := by
  unfold IC at h
  simp [World.cell?, h]
theorem IC.free (h : IC B op a b i w) (o : Nat) : w.frozen? ⟨B, o, none⟩ = false := by
  unfold IC at h
  simp [World.frozen?, h]
theorem ic_modify {B j : Nat} {v : Value} {cs : Array Value} {t : TypeId} {w : World} (h : w.heap[B]? = some (.cells cs t (0, 0))) : (w.setCell ⟨B, j, none⟩ v).heap[B]? = some (.cells (cs.setIfInBounds j v) t (0, 0)) := by
  obtain ⟨hlt, hk⟩ := Array.getElem?_eq_some_iff.1 h
  show (w.heap.modify B _)[B]? = _
  rw [Array.getElem?_eq_getElem (by rw [Array.size_modify]; exact hlt), Array.getElem_modify_self, hk]
  rfl
theorem IC.set1 (h : IC B op a b i w) (x : Int) : IC B op x b i (w.setCell ⟨B, 1, none⟩ (.int .i64 x)) := ic_modify h
theorem IC.set2 (h : IC B op a b i w) (x : Int) : IC B op a x i (w.setCell ⟨B, 2, none⟩ (.int .i64 x)) := ic_modify h
theorem IC.set3 (h : IC B op a b i w) (x : Int) : IC B op a b x (w.setCell ⟨B, 3, none⟩ (.int .i64 x)) := ic_modify h
end

theorem byte_ne {c d : UInt8} (h : c ≠ d) : ((c.toNat : Int) == (d.toNat : Int)) = false := by
  rw [beq_eq_false_iff_ne]
  intro e
  exact h (UInt8.toNat_inj.1 (by omega))
theorem partsA_a {us : List UInt8} {ws : List (List UInt8)} {k : Nat} {a b i : Int} (hp : partsA us ws k = (a, b, i, true)) (hu : us.getD k 0 = 97) :
    partsA us ws (k + 1) = ((regV (ws.getD (k + 1) [])).1, b, i, (regV (ws.getD (k + 1) [])).2) := by
  rw [partsA, hp, if_pos rfl, if_pos hu]
theorem partsA_b {us : List UInt8} {ws : List (List UInt8)} {k : Nat} {a b i : Int} (hp : partsA us ws k = (a, b, i, true)) (hu : us.getD k 0 = 98) :
    partsA us ws (k + 1) = (a, (regV (ws.getD (k + 1) [])).1, i, (regV (ws.getD (k + 1) [])).2) := by
  rw [partsA, hp, if_pos rfl, if_neg (by rw [hu]; decide), if_pos hu]
theorem partsA_i {us : List UInt8} {ws : List (List UInt8)} {k : Nat} {a b i : Int} (hp : partsA us ws k = (a, b, i, true)) (h1 : us.getD k 0 ≠ 97) (h2 : us.getD k 0 ≠ 98) :
    partsA us ws (k + 1) = (a, b, (numV (ws.getD (k + 1) [])).1, (numV (ws.getD (k + 1) [])).2) := by
  rw [partsA, hp, if_pos rfl, if_neg h1, if_neg h2]
theorem splitW_word_len (l : List UInt8) : ∀ w ∈ splitW l, w.length ≤ l.length := by
  induction l with
  | nil => intro w hw; simp [splitW] at hw; subst hw; simp
  | cons c t ih =>
    intro w hw
    unfold splitW at hw
    split at hw
    · rcases List.mem_cons.1 hw with rfl | hw
      · simp
      · have := ih w hw; simp; omega
    · split at hw
      · rw [List.mem_singleton] at hw; subst hw; simp
      · rename_i h
        rw [h] at ih
        rcases List.mem_cons.1 hw with rfl | hw
        · have := ih _ (List.mem_cons_self); simp; omega
        · have := ih w (List.mem_cons_of_mem _ hw); simp; omega
theorem word_at_len (l : List UInt8) (j : Nat) : ((splitW l).getD j []).length ≤ l.length := by
  by_cases h : j < (splitW l).length
  · rw [List.getD_eq_getElem?_getD, List.getElem?_eq_getElem h]
    exact splitW_word_len l _ (List.getElem_mem h)
  · rw [List.getD_eq_getElem?_getD, List.getElem?_eq_none (by omega)]
    simp
/-- a struct stored over another one -/
theorem ic_put {B : Nat} {op a b i op' a' b' i' : Int} {w : World} (h : IC B op a b i w) :
    IC B op' a' b' i' ((((w.setCell ⟨B, 0, none⟩ (.int .i64 op')).setCell ⟨B, 1, none⟩ (.int .i64 a')).setCell ⟨B, 2, none⟩ (.int .i64 b')).setCell ⟨B, 3, none⟩ (.int .i64 i')) :=
  IC.set3 (IC.set2 (IC.set1 (show IC B op' a b i _ from ic_modify (j := 0) (v := .int .i64 op') h) a') b') i'
theorem put_other {B k : Nat} (h : k ≠ B) {v0 v1 v2 v3 : Value} {w : World} : ((((w.setCell ⟨B, 0, none⟩ v0).setCell ⟨B, 1, none⟩ v1).setCell ⟨B, 2, none⟩ v2).setCell ⟨B, 3, none⟩ v3).heap[k]? = w.heap[k]? := by
  rw [Below.heap_setCell _ _ _ k h, Below.heap_setCell _ _ _ k h, Below.heap_setCell _ _ _ k h, Below.heap_setCell _ _ _ k h]
theorem put_below {n B : Nat} {w0 w : World} (hb : Below n w0 w) (h : n ≤ B) {v0 v1 v2 v3 : Value} : Below n w0 ((((w.setCell ⟨B, 0, none⟩ v0).setCell ⟨B, 1, none⟩ v1).setCell ⟨B, 2, none⟩ v2).setCell ⟨B, 3, none⟩ v3) :=
  (((hb.setCell (p := ⟨B, 0, none⟩) h v0).setCell (p := ⟨B, 1, none⟩) h v1).setCell (p := ⟨B, 2, none⟩) h v2).setCell (p := ⟨B, 3, none⟩) h v3
theorem parse_end {tmps : Array Value} {W w : World} {op a b i e : Int} {R : Ending → World → Prop} (h2 : tmps.getD 2 undef = .pointer (some ⟨w.heap.size, 0, none⟩)) (h3 : tmps.getD 3 undef = .int .i64 e)
    (hc : IC w.heap.size op a b i W) (hD : W.heap[w.heap.size + 5]? = some (.deferred (some []))) (hb : Below w.heap.size w W)
    (hR : ∀ W', Below w.heap.size w W' → R (.returned (.tuple #[.agg #[.int .i64 op, .int .i64 a, .int .i64 b, .int .i64 i], .int .i64 e])) W') :
    bodyPostM Fence.wide 9 Tryd.prog Tryd.f14 R .ret { tmps := tmps, defers := [{ target := .collected (w.heap.size + 5), args := #[] }] } W := by
  refine ⟨by simp, .inl ⟨_, _, rfl, run_takeDeferred hD, ?_⟩⟩
  have hc2 : IC w.heap.size op a b i (W.putObj (w.heap.size + 5) (.deferred none)) := (World.putObj_heap_other (by omega)).trans hc
  obtain ⟨c0, c1, c2, c3⟩ := hc2.cells
  refine ⟨.tuple #[.agg #[.int .i64 op, .int .i64 a, .int .i64 b, .int .i64 i], .int .i64 e], ?_, hR _ (hb.grown (grownBy_putObj' W _ _) hb.size (fun k e => by cases e; omega))⟩
  have h2 : tmps[2]?.getD undef = .pointer (some ⟨w.heap.size, 0, none⟩) := by simpa using h2
  have h3 : tmps[3]?.getD undef = .int .i64 e := by simpa using h3
  simp [results, Tryd.results14, h2, h3, c0, c1, c2, c3, go_sem]

set_option maxRecDepth 100000 in
set_option maxHeartbeats 8000000 in
theorem parse_any (l : List UInt8) (hl : l.length ≤ 2097152) (w : World) (hT : Tabs w) :
    Calls Tryd.prog 14 #[.string ⟨l.toArray⟩] w fun e w' => e = .returned (.tuple #[insV (parseA l), .int .i64 (insE (parseA l))]) ∧ Below w.heap.size w w' := by
  obtain ⟨i0x, hi, hz0, hz1, hz2⟩ := info_parts infoStr
  have HT := Lib.hid hT
  clear hT
  refine (callsIn_wide (n := 9)).1 ?_
  refine callsIn_of_wp_marks Tryd.func14 rfl trivial ?_ rfl
  simp only [Tryd.ntmps14, List.size_toArray, List.length_cons, List.length_nil, Nat.reduceAdd, Nat.reduceSub, Array.replicate_succ, Array.replicate_zero, List.push_toArray, List.append_toArray, List.nil_append, List.cons_append]
  refine wpIn_wide.2 ?_
  go_wp2_with fail
  refine (words_any l _).mono ?_
  rintro e w' ⟨rfl, rfl⟩
  go_wp2_with fail
  simp only [Nat.add_assoc, Nat.reduceAdd]
  refine wp_range_words l hl w rfl rfl (fun x => { tmps := #[.string ⟨l.toArray⟩, undef, .pointer (some ⟨w.heap.size, 0, none⟩), .int .i64 0, .pointer (some ⟨w.heap.size + 1, 0, none⟩), x, undef, undef, undef, undef, undef, .string ⟨l.toArray⟩, .func (.func 46) #[] #[.pointer (some ⟨w.heap.size + 3, 0, none⟩), .pointer (some ⟨w.heap.size + 2, 0, none⟩), .pointer (some ⟨w.heap.size + 4, 0, none⟩)], x, undef, undef, undef, undef, undef, undef, undef, undef, undef, undef, undef, undef, undef, undef, undef, undef, undef, undef, undef, undef, undef, undef, undef, undef, undef, undef, undef, undef, undef, undef, undef, undef, undef, undef, undef, undef, undef, undef, undef, undef, undef, undef, undef, undef, undef, undef, undef, undef, undef, undef, undef, undef, undef, undef, undef, undef, undef, undef, undef, undef, undef, undef, undef, undef, undef, undef, undef, undef, undef, undef, undef, undef, undef, undef, undef, undef, undef, undef, undef, undef, undef, undef, undef, undef, undef], defers := [] }) ?assign ?body ?done
  case assign =>
    intro L x W K hK
    gi_wp2
    exact hK
  case body =>
    rintro L r o rest pre x W hpl ⟨v, hA, hO⟩
    have hv := hA.box (b := w.heap.size + 1) (by omega) SE_l
    have hc := hv.cell
    have hf := hv.frozen
    have hA' := hide hA
    have hO' := hide hO
    have hv' := hide hv
    have hrm := hA.room
    clear hA hO hv
    gi_wp2_with (gi_at_builtin; refine wpListIn_append_own _ rfl _ _ 56 rfl (w.heap.size + 7) 9 i0x (.string ⟨#[]⟩) 1 16 Tryd.underlying56 hi hz0 hz1 hz2 rfl (by decide) _ _ _ rfl (hO'.out.alloc _) ⟨W.heap.size, 0, none⟩ 1 1 [.string ⟨x.toArray⟩] rfl rfl (cell_one_new _ _ _) (by simp [Value.oneCell']) (by unfold maxLen; omega) (by omega) (by simp; omega) ?_; intro v' w1 hown' hgrow _; obtain ⟨g', cap', rfl⟩ := ownsRow_succ hown'; have hA1 := (hA'.out.alloc _).grown hgrow (fun k e => (hO'.out.lt _ e).1); have hv1 := hA1.box (b := w.heap.size + 1) (by omega) SE_l; have hc1 := hv1.cell; have hf1 := hv1.frozen)
    refine ⟨.slice (some ⟨g', 0, none⟩) (pre.length + 1) cap', ?_, ?_⟩
    · rw [setCell_box hv1]
      exact (hA1.put _ (by omega) _).congr (fun k _ => SE_put_l k)
    · rw [strsC_snoc, List.length_append]
      refine hown'.kept (grownBy_setCell' w1 _ _) (.inr (fun e => ?_))
      have := (hown'.lt _ e).1
      omega
  case done =>
    intro v W hTo
    obtain ⟨hbx, hO, hres, hmk, hrm, hBl⟩ := hTo
    have hne := splitW_ne l
    have hwl := splitW_len l
    have hwx := hide (word_at_len l)
    have HP := hide (show parseA l = if (splitW l).length = 1 + (useOf (opTo ((splitW l).getD 0 []) 24)).length ∧ (partsA (useOf (opTo ((splitW l).getD 0 []) 24)) (splitW l) (useOf (opTo ((splitW l).getD 0 []) 24)).length).2.2.2 = true ∧ mayB (opTo ((splitW l).getD 0 []) 24) (partsA (useOf (opTo ((splitW l).getD 0 []) 24)) (splitW l) (useOf (opTo ((splitW l).getD 0 []) 24)).length).1 (partsA (useOf (opTo ((splitW l).getD 0 []) 24)) (splitW l) (useOf (opTo ((splitW l).getD 0 []) 24)).length).2.1 (partsA (useOf (opTo ((splitW l).getD 0 []) 24)) (splitW l) (useOf (opTo ((splitW l).getD 0 []) 24)).length).2.2.1 = true then some (opTo ((splitW l).getD 0 []) 24, (partsA (useOf (opTo ((splitW l).getD 0 []) 24)) (splitW l) (useOf (opTo ((splitW l).getD 0 []) 24)).length).1, (partsA (useOf (opTo ((splitW l).getD 0 []) 24)) (splitW l) (useOf (opTo ((splitW l).getD 0 []) 24)).length).2.1, (partsA (useOf (opTo ((splitW l).getD 0 []) 24)) (splitW l) (useOf (opTo ((splitW l).getD 0 []) 24)).length).2.2.1) else none from rfl)
    generalize splitW l = ws at hO hne hwl hwx HP
    obtain ⟨g, cap, rfl, hgl, hgc⟩ := row_lit hO hne
    have hws0 : 0 < ws.length := List.length_pos_iff.2 hne
    have HG := hide hgc
    clear hgc
    have hc0 := hbx.cell
    have HB := hide hBl
    have HM := hide hmk
    have HR := hide hres
    clear hO hbx hBl hmk hres
    generalize hw0 : ws.getD 0 [] = w0 at HP
    have g0 : W.cell? ⟨g, 0, none⟩ = some (.string ⟨w0.toArray⟩) := by rw [← hw0]; exact HG.out 0 hws0
    have HW0 := hide hw0
    clear hw0
    have hgl0 : (0 : Int) < (ws.length : Int) := by omega
    have HTW := hide (HT.out.below HB.out)
    go_wp2_with fail
    go_loopw [6, 7] (fun o i wr => ∃ k : Nat, k ≤ 24 ∧ i = .int .i64 ((k + 1 : Nat) : Int) ∧ o = .int .i64 (opTo w0 k) ∧ Hid (Below W.heap.size W wr)) (fun _ i _ => 25 - (intOf i).toNat)
    case atStart => exact ⟨0, Nat.zero_le _, rfl, rfl, Below.refl _ _⟩
    case round =>
      obtain ⟨k, hk, rfl, rfl, hB⟩ := hrel
      have e1 : wr.cell? ⟨w.heap.size + 1, 0, none⟩ = some (.slice (some ⟨g, 0, none⟩) ws.length cap) := (hB.out.cell (p := ⟨w.heap.size + 1, 0, none⟩) (by simp; omega)).trans hc0
      have e2 : wr.cell? ⟨g, 0, none⟩ = some (.string ⟨w0.toArray⟩) := (hB.out.cell (p := ⟨g, 0, none⟩) hgl).trans g0
      have hTr := HTW.out.below hB.out
      by_cases hlt : k < 24
      · have e3 : wr.cell? ⟨0, k + 1, none⟩ = some (.string ⟨(nameOf (k + 1)).toArray⟩) := hTr.2.1.2 (k + 1) (by omega)
        have hop : Hid (opTo w0 (k + 1) = if nameOf (k + 1) = w0 then k + 1 else opTo w0 k) := rfl
        clear hTr
        generalize nameOf (k + 1) = nm at e3 hop
        have i0 : (0 : Int) ≤ ((k + 1 : Nat) : Int) := Int.natCast_nonneg _
        have i1 : ((k + 1 : Nat) : Int) < 25 := by omega
        by_cases hnm : nm = w0
        · have heq : (nm == w0) = true := beq_iff_eq.2 hnm
          have HOP := hide (show opTo w0 (k + 1) = k + 1 from by rw [hop.out, if_pos hnm])
          clear hop hnm
          go_upto_region 9 with fail
          go_quiet (fail)
          go_wp2
          go_roundw
          case rel => exact ⟨k + 1, by omega, by go_num, by rw [HOP.out], Go.Proofs.YtijjamiidpikdaaDoor.Below.drewN hB.out _⟩
          case measure => simp [intOf]; omega
        · have heq : (nm == w0) = false := beq_eq_false_iff_ne.2 hnm
          have HOP := hide (show opTo w0 (k + 1) = opTo w0 k from by rw [hop.out, if_neg hnm])
          clear hop hnm
          go_upto_region 9 with fail
          go_quiet (fail)
          go_wp2
          go_roundw
          case rel => exact ⟨k + 1, by omega, by go_num, by rw [HOP.out], Go.Proofs.YtijjamiidpikdaaDoor.Below.drewN hB.out _⟩
          case measure => simp [intOf]; omega
      · obtain rfl : k = 24 := by omega
        rw [show ((24 + 1 : Nat) : Int) = 25 from rfl]
        have hle := opTo_le w0 24
        have hop25 : opTo w0 24 < 25 := by omega
        have e3 : wr.cell? ⟨1, opTo w0 24, none⟩ = some (.string ⟨(useOf (opTo w0 24)).toArray⟩) := hTr.2.2.2 (opTo w0 24) hop25
        have hul := use_len (opTo w0 24) hop25
        clear hTr
        generalize opTo w0 24 = op at HP hle hop25 e3 hul ⊢
        generalize hus : useOf op = us at HP e3 hul
        have hUS := hide hus
        clear hus
        obtain ⟨gd, hgd⟩ : ∃ gd, ((ws.length : Int) == 1 + (us.length : Int)) = gd := ⟨_, rfl⟩
        have u0 : (0 : Int) ≤ (us.length : Int) := Int.natCast_nonneg _
        have u1 : (us.length : Int) ≤ 3 := by omega
        have o0 : (0 : Int) ≤ (op : Int) := Int.natCast_nonneg _
        have o1 : (op : Int) < 25 := by omega
        have hi0 : IC wr.heap.size op 0 0 0 (wr.alloc (.cells #[.int .i64 (op : Int), .int .i64 0, .int .i64 0, .int .i64 0] 27)) := ic_new _ _ _ _ _
        have hBX := hB.out.trans ((below_new wr (.cells #[.int .i64 (op : Int), .int .i64 0, .int .i64 0, .int .i64 0] 27)).mono hB.out.size)
        have f1 := ((below_new wr (.cells #[.int .i64 (op : Int), .int .i64 0, .int .i64 0, .int .i64 0] 27)).cell (p := ⟨w.heap.size + 1, 0, none⟩) (by have := hB.out.size; simp; omega)).trans e1
        have f2 := ((below_new wr (.cells #[.int .i64 (op : Int), .int .i64 0, .int .i64 0, .int .i64 0] 27)).cell (p := ⟨g, 0, none⟩) (by have := hB.out.size; simp; omega)).trans e2
        have f3 := ((below_new wr (.cells #[.int .i64 (op : Int), .int .i64 0, .int .i64 0, .int .i64 0] 27)).cell (p := ⟨1, op, none⟩) (World.block_lt_of_cell? _ _ e3)).trans e3
        have hWs : W.heap.size ≤ wr.heap.size := hB.out.size
        have hX : wr.heap.size < (wr.alloc (.cells #[.int .i64 (op : Int), .int .i64 0, .int .i64 0, .int .i64 0] 27)).heap.size := by simp
        go_upto_region 12 with fail
        clear hB e1 e2 e3
        generalize (wr.alloc (.cells #[.int .i64 (op : Int), .int .i64 0, .int .i64 0, .int .i64 0] 27)) = X at hi0 hBX f1 f2 f3 hX ⊢
        generalize wr.heap.size = Bi at hi0 hWs hX ⊢
        have HI := hide hi0
        have HBX := hide hBX
        clear hi0 hBX
        go_cut [9] from 32 to 39 (fun s9 wx => s9 = .bool gd ∧ Hid (Below X.heap.size X wx))
        case first =>
          go_quiet (fail)
          go_wp2_with fail
          go_meet
          exact ⟨by simp, below_drewN _ _⟩
        case rest =>
        obtain ⟨rfl, hq⟩ := hcut
        have hBq := hide (HBX.out.trans (hq.out.mono HBX.out.size))
        have hIq := hide (HI.out.below hq.out)
        have hqs := hq.out.size
        have f1 := (hq.out.cell (p := ⟨w.heap.size + 1, 0, none⟩) (World.block_lt_of_cell? _ _ f1)).trans f1
        have f3 := (hq.out.cell (p := ⟨1, op, none⟩) (World.block_lt_of_cell? _ _ f3)).trans f3
        clear hq f2
        cases gd
        · have hN := hide (show parseA l = none from by
            rw [HP.out, if_neg]
            rintro ⟨h, _⟩
            rw [beq_eq_false_iff_ne] at hgd
            exact hgd (by omega))
          clear HP
          go_wp2_with fail
          go_loopw [9, 10] (fun gv i wr => gv = .bool false ∧ i = .int .i64 0 ∧ Hid (Below W.heap.size W wr)) (fun _ _ _ => 0)
          case atStart => exact ⟨rfl, rfl, hBq⟩
          case round =>
            obtain ⟨rfl, rfl, hB⟩ := hrel
            have hTr := HTW.out.below hB.out
            have f3 : wr.cell? ⟨1, op, none⟩ = some (.string ⟨us.toArray⟩) := by rw [← hUS.out]; exact hTr.2.2.2 op hop25
            have r0 : wr.heap[w.heap.size]? = some (.cells #[.int .i64 0, .int .i64 0, .int .i64 0, .int .i64 0] 27 (0, 0)) := (hB.out.block _ (by omega)).trans HR.out
            have r1 : ∀ o, wr.frozen? ⟨w.heap.size, o, none⟩ = false := IC.free (op := 0) (a := 0) (b := 0) (i := 0) r0
            have z0 := r1 0
            have z1 := r1 1
            have z2 := r1 2
            have z3 := r1 3
            obtain ⟨y0, y1, y2, y3⟩ := IC.cells (op := 0) (a := 0) (b := 0) (i := 0) r0
            have R0 := hide r0
            clear hTr r1 r0
            have hfin := hide (show ∀ W', Below w.heap.size w W' → (fun (e : Ending) (w' : World) => e = .returned (.tuple #[insV (parseA l), .int .i64 (insE (parseA l))]) ∧ Below w.heap.size w w') (.returned (.tuple #[.agg #[.int .i64 0, .int .i64 0, .int .i64 0, .int .i64 0], .int .i64 3])) W' from fun W' h => ⟨by rw [hN.out]; rfl, h⟩)
            by_cases h0 : 0 < us.length
            · have h1 : (0 : Int) < (us.length : Int) := by omega
              go_wp2_with fail
              exact parse_end rfl rfl (ic_put R0.out) ((put_other (by omega)).trans ((hB.out.block _ (by omega)).trans HM.out)) (put_below (HB.out.trans (hB.out.mono HB.out.size)) (Nat.le_refl _)) hfin.out
            · have h1 : ¬ (0 : Int) < (us.length : Int) := by omega
              go_wp2_with fail
              exact parse_end rfl rfl (ic_put R0.out) ((put_other (by omega)).trans ((hB.out.block _ (by omega)).trans HM.out)) (put_below (HB.out.trans (hB.out.mono HB.out.size)) (Nat.le_refl _)) hfin.out
        · have hlen : ws.length = us.length + 1 := by
            have := beq_iff_eq.1 hgd
            omega
          go_wp2_with fail
          go_loopw [9, 10] (fun gv i wr => ∃ k : Nat, k ≤ us.length ∧ i = .int .i64 k ∧ gv = .bool (partsA us ws k).2.2.2 ∧ Hid (Below W.heap.size W wr) ∧ Hid (IC Bi op (partsA us ws k).1 (partsA us ws k).2.1 (partsA us ws k).2.2.1 wr)) (fun _ i _ => us.length - (intOf i).toNat)
          case atStart => exact ⟨0, Nat.zero_le _, rfl, rfl, hBq, hIq⟩
          case round =>
            obtain ⟨k, hk, rfl, rfl, hB, hI⟩ := hrel
            have hTr := HTW.out.below hB.out
            have f3 : wr.cell? ⟨1, op, none⟩ = some (.string ⟨us.toArray⟩) := by rw [← hUS.out]; exact hTr.2.2.2 op hop25
            have f1 : wr.cell? ⟨w.heap.size + 1, 0, none⟩ = some (.slice (some ⟨g, 0, none⟩) ws.length cap) := (hB.out.cell (p := ⟨w.heap.size + 1, 0, none⟩) (by simp; omega)).trans hc0
            have HTr := hide hTr
            clear hTr
            have hrg := partsA_range us ws k
            generalize hp : partsA us ws k = P at hI hrg ⊢
            obtain ⟨a, b, im, gg⟩ := P
            have hPk := hide hp
            clear hp
            have hI := hide (show IC Bi op a b im wr from hI.out)
            have k0 : (0 : Int) ≤ (k : Int) := Int.natCast_nonneg _
            cases gg
            · have hN := hide (show parseA l = none from by
                rw [HP.out, if_neg]
                rintro ⟨_, h, _⟩
                rw [partsA_stop us ws (by rw [hPk.out]) us.length hk] at h
                cases h)
              have hfin := hide (show ∀ W', Below w.heap.size w W' → (fun (e : Ending) (w' : World) => e = .returned (.tuple #[insV (parseA l), .int .i64 (insE (parseA l))]) ∧ Below w.heap.size w w') (.returned (.tuple #[.agg #[.int .i64 0, .int .i64 0, .int .i64 0, .int .i64 0], .int .i64 3])) W' from fun W' h => ⟨by rw [hN.out]; rfl, h⟩)
              have r0 : wr.heap[w.heap.size]? = some (.cells #[.int .i64 0, .int .i64 0, .int .i64 0, .int .i64 0] 27 (0, 0)) := (hB.out.block _ (by omega)).trans HR.out
              have r1 : ∀ o, wr.frozen? ⟨w.heap.size, o, none⟩ = false := IC.free (op := 0) (a := 0) (b := 0) (i := 0) r0
              have z0 := r1 0
              have z1 := r1 1
              have z2 := r1 2
              have z3 := r1 3
              obtain ⟨y0, y1, y2, y3⟩ := IC.cells (op := 0) (a := 0) (b := 0) (i := 0) r0
              have R0 := hide r0
              clear r1 r0
              by_cases h0 : k < us.length
              · have h1 : (k : Int) < (us.length : Int) := by omega
                go_wp2_with fail
                exact parse_end rfl rfl (ic_put R0.out) ((put_other (by omega)).trans ((hB.out.block _ (by omega)).trans HM.out)) (put_below (HB.out.trans (hB.out.mono HB.out.size)) (Nat.le_refl _)) hfin.out
              · have h1 : ¬ (k : Int) < (us.length : Int) := by omega
                go_wp2_with fail
                exact parse_end rfl rfl (ic_put R0.out) ((put_other (by omega)).trans ((hB.out.block _ (by omega)).trans HM.out)) (put_below (HB.out.trans (hB.out.mono HB.out.size)) (Nat.le_refl _)) hfin.out
            · by_cases h0 : k < us.length
              · have h1 : (k : Int) < (us.length : Int) := by omega
                have h2 : (k : Int) + 1 < (ws.length : Int) := by omega
                have h3 : k + 1 < ws.length := by omega
                have hbk : (⟨us.toArray⟩ : ByteArray)[k]'(by exact h0) = us.getD k 0 := by
                  rw [List.getD_eq_getElem?_getD, List.getElem?_eq_getElem h0]
                  rfl
                have hxl := hide (show (ws.getD (k + 1) []).length ≤ maxLen from by have := hwx.out (k + 1); unfold maxLen; omega)
                have f5 : wr.cell? ⟨g, k + 1, none⟩ = some (.string ⟨(ws.getD (k + 1) []).toArray⟩) := (hB.out.cell (p := ⟨g, k + 1, none⟩) hgl).trans (HG.out (k + 1) h3)
                by_cases hu : us.getD k 0 = 97
                · have hu2 := hu
                  have hPn := hide (partsA_a hPk.out hu2)
                  have t1 : ((((⟨us.toArray⟩ : ByteArray)[k]'(by exact h0)).toNat : Int) == 97) = true := by rw [hbk, hu]; rfl
                  clear hu hu2 hbk
                  generalize ws.getD (k + 1) [] = x at hxl f5 hPn
                  go_wp2_with fail
                  refine (reg_any x _ hxl.out).mono ?_
                  rintro e w1 ⟨rfl, hb⟩
                  have hI1 := hI.out.below hb
                  have hz := hI1.free 1
                  obtain ⟨y0, y1, y2, y3⟩ := hI1.cells
                  have hB1 := hide (hB.out.trans (hb.mono hB.out.size))
                  have HI1 := hide hI1
                  clear hb hI1
                  go_wp2
                  go_roundw
                  case rel =>
                    refine ⟨k + 1, by omega, by go_num, ?_, hB1.out.setCell (p := ⟨Bi, 1, none⟩) hWs _, ?_⟩
                    · rw [hPn.out]
                    · rw [hPn.out]
                      exact HI1.out.set1 _
                  case measure => simp [intOf]; omega
                · by_cases hu2 : us.getD k 0 = 98
                  · have hPn := hide (partsA_b hPk.out hu2)
                    have t1 : ((((⟨us.toArray⟩ : ByteArray)[k]'(by exact h0)).toNat : Int) == 97) = false := by rw [hbk, hu2]; rfl
                    have t2 : ((((⟨us.toArray⟩ : ByteArray)[k]'(by exact h0)).toNat : Int) == 98) = true := by rw [hbk, hu2]; rfl
                    clear hu hu2 hbk
                    generalize ws.getD (k + 1) [] = x at hxl f5 hPn
                    go_wp2_with fail
                    refine (reg_any x _ hxl.out).mono ?_
                    rintro e w1 ⟨rfl, hb⟩
                    have hI1 := hI.out.below hb
                    have hz := hI1.free 2
                    obtain ⟨y0, y1, y2, y3⟩ := hI1.cells
                    have hB1 := hide (hB.out.trans (hb.mono hB.out.size))
                    have HI1 := hide hI1
                    clear hb hI1
                    go_wp2
                    go_roundw
                    case rel =>
                      refine ⟨k + 1, by omega, by go_num, ?_, hB1.out.setCell (p := ⟨Bi, 2, none⟩) hWs _, ?_⟩
                      · rw [hPn.out]
                      · rw [hPn.out]
                        exact HI1.out.set2 _
                    case measure => simp [intOf]; omega
                  · have hPn := hide (partsA_i hPk.out hu hu2)
                    have t1 : ((((⟨us.toArray⟩ : ByteArray)[k]'(by exact h0)).toNat : Int) == 97) = false := byte_ne (c := (⟨us.toArray⟩ : ByteArray)[k]'(by exact h0)) (d := 97) (by rw [hbk]; exact hu)
                    have t2 : ((((⟨us.toArray⟩ : ByteArray)[k]'(by exact h0)).toNat : Int) == 98) = false := byte_ne (c := (⟨us.toArray⟩ : ByteArray)[k]'(by exact h0)) (d := 98) (by rw [hbk]; exact hu2)
                    clear hu hu2 hbk
                    generalize ws.getD (k + 1) [] = x at hxl f5 hPn
                    go_wp2_with fail
                    refine (number_any x _ hxl.out).mono ?_
                    rintro e w1 ⟨rfl, hb⟩
                    have hI1 := hI.out.below hb
                    have hz := hI1.free 3
                    obtain ⟨y0, y1, y2, y3⟩ := hI1.cells
                    have hB1 := hide (hB.out.trans (hb.mono hB.out.size))
                    have HI1 := hide hI1
                    clear hb hI1
                    go_wp2
                    go_roundw
                    case rel =>
                      refine ⟨k + 1, by omega, by go_num, ?_, hB1.out.setCell (p := ⟨Bi, 3, none⟩) hWs _, ?_⟩
                      · rw [hPn.out]
                      · rw [hPn.out]
                        exact HI1.out.set3 _
                    case measure => simp [intOf]; omega
              · obtain rfl : k = us.length := by omega
                have h1 : ¬ (us.length : Int) < (us.length : Int) := by omega
                obtain ⟨⟨ra0, ra1⟩, ⟨rb0, rb1⟩, ri0, ri1⟩ := hrg
                obtain ⟨i0, i1, i2, i3⟩ := hI.out.cells
                cases hmay : mayB op a b im with
                | false =>
                  have hN := hide (show parseA l = none from by
                    rw [HP.out, if_neg]
                    rintro ⟨_, _, h⟩
                    rw [hPk.out, hmay] at h
                    cases h)
                  have HM2 := hide hmay
                  clear hmay
                  have hfin := hide (show ∀ W', Below w.heap.size w W' → (fun (e : Ending) (w' : World) => e = .returned (.tuple #[insV (parseA l), .int .i64 (insE (parseA l))]) ∧ Below w.heap.size w w') (.returned (.tuple #[.agg #[.int .i64 0, .int .i64 0, .int .i64 0, .int .i64 0], .int .i64 3])) W' from fun W' h => ⟨by rw [hN.out]; rfl, h⟩)
                  go_wp2_with fail
                  refine (may_false HTr.out.1 HM2.out).mono ?_
                  rintro e w1 ⟨rfl, hb⟩
                  have hB := hide (hB.out.trans (hb.mono hB.out.size))
                  clear hb
                  have r0 : w1.heap[w.heap.size]? = some (.cells #[.int .i64 0, .int .i64 0, .int .i64 0, .int .i64 0] 27 (0, 0)) := (hB.out.block _ (by omega)).trans HR.out
                  have r1 : ∀ o, w1.frozen? ⟨w.heap.size, o, none⟩ = false := IC.free (op := 0) (a := 0) (b := 0) (i := 0) r0
                  have z0 := r1 0
                  have z1 := r1 1
                  have z2 := r1 2
                  have z3 := r1 3
                  obtain ⟨y0, y1, y2, y3⟩ := IC.cells (op := 0) (a := 0) (b := 0) (i := 0) r0
                  have R0 := hide r0
                  clear r1 r0
                  go_wp2_with fail
                  exact parse_end rfl rfl (ic_put R0.out) ((put_other (by omega)).trans ((hB.out.block _ (by omega)).trans HM.out)) (put_below (HB.out.trans (hB.out.mono HB.out.size)) (Nat.le_refl _)) hfin.out
                | true =>
                  have hN := hide (show parseA l = some (op, a, b, im) from by
                    rw [HP.out, hPk.out, if_pos ⟨by omega, rfl, hmay⟩])
                  have HM2 := hide hmay
                  clear hmay
                  have hfin := hide (show ∀ W', Below w.heap.size w W' → (fun (e : Ending) (w' : World) => e = .returned (.tuple #[insV (parseA l), .int .i64 (insE (parseA l))]) ∧ Below w.heap.size w w') (.returned (.tuple #[.agg #[.int .i64 (op : Int), .int .i64 a, .int .i64 b, .int .i64 im], .int .i64 0])) W' from fun W' h => ⟨by rw [hN.out]; rfl, h⟩)
                  go_wp2_with fail
                  refine (may_true HTr.out.1 HM2.out).mono ?_
                  rintro e w1 ⟨rfl, hb⟩
                  obtain ⟨i0, i1, i2, i3⟩ := (hI.out.below hb).cells
                  have hB := hide (hB.out.trans (hb.mono hB.out.size))
                  clear hb
                  have r0 : w1.heap[w.heap.size]? = some (.cells #[.int .i64 0, .int .i64 0, .int .i64 0, .int .i64 0] 27 (0, 0)) := (hB.out.block _ (by omega)).trans HR.out
                  have r1 : ∀ o, w1.frozen? ⟨w.heap.size, o, none⟩ = false := IC.free (op := 0) (a := 0) (b := 0) (i := 0) r0
                  have z0 := r1 0
                  have z1 := r1 1
                  have z2 := r1 2
                  have z3 := r1 3
                  obtain ⟨y0, y1, y2, y3⟩ := IC.cells (op := 0) (a := 0) (b := 0) (i := 0) r0
                  have R0 := hide r0
                  clear r1 r0
                  go_wp2_with fail
                  exact parse_end rfl rfl (ic_put R0.out) ((put_other (by omega)).trans ((hB.out.block _ (by omega)).trans HM.out)) (put_below (HB.out.trans (hB.out.mono HB.out.size)) (Nat.le_refl _)) hfin.out

end Go.Proofs.YtijjamiidpikdaaDoor.Asm
