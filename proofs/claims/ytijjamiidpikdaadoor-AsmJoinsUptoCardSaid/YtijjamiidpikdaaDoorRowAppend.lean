/-
  append onto a row of the call's own, from a slice whose cells are known (nil, too): at a plain region's list, and at a step of a region that draws its order. Conditions: the new length's bounds.
-/
import Derived.Test.YtijjamiidpikdaaDoorRow
import Derived.Maps.AppendAt
import Derived.Laws.OwnMore
import Derived.RegionTactic
namespace Go.Proofs.YtijjamiidpikdaaDoor
open Go.RowKit

/-- what an append leaves: the new value owns the old cells and the new ones; its row is the old one, or a block made now; all else is as it was -/
def Appended (base : Nat) (e : TypeId) (size : Nat) (w : World) (v : Value) (n m : Nat) (xs news : List Value) (v' : Value) (w' : World) : Prop :=
  w'.ownsRow base e size v' (n + m) (xs ++ news) ∧ w.grownBy w' v.ownBlock ∧ (v'.ownBlock = v.ownBlock ∨ v'.ownBlock = some w.heap.size)

section
variable {P : Program} {w : World}
theorem run_append_rd (t ty : TypeId) (base : Nat) (e : TypeId) (i : TypeInfo) (z : Value) (size bytes : Nat) (ht : P.underlying t = some (.slice e)) (hi : P.info? e = some i) (hz : i.zero = some z)
    (hsize : i.size = size) (hby : i.bytes = bytes) (hzs : z.cells.size = size) (hsz : 0 < size)
    (v : Value) (n : Nat) (xs : List Value) (hown : w.ownsRow base e size v n xs) (A : Option Addr) (m c : Nat) (news : List Value) (hr : RdC w size A m c news) (h1 : ∀ u ∈ news, u.oneCell' = true)
    (h63 : n + m ≤ maxLen) (hbytes : (n + m) * bytes ≤ 140737488355328) (hbase : base ≤ w.heap.size) :
    ∃ v' w', (Builtin.append_ #[t, t] ty #[v, .slice A m c]).run P w = .ok v' w' ∧ Appended base e size w v n m xs news v' w' := by
  obtain ⟨hl, hmc, hcm, h0, hcell⟩ := hr
  cases A with
  | none =>
    obtain rfl : c = 0 := h0 rfl
    obtain rfl : m = 0 := by omega
    have hn : news = [] := List.eq_nil_of_length_eq_zero (by simpa using hl)
    subst hn
    refine ⟨v, w, run_append_owned_none w base t ty e i size ht hi v n xs hown, by simpa using hown, ⟨rfl, rfl, rfl, Nat.le_refl _, fun _ _ _ => rfl⟩, .inl rfl⟩
  | some a =>
    obtain ⟨v', w', hrun, h2, h3, _, h5⟩ := run_append_own_at (P := P) w base t ty e i z size bytes ht hi hz hsize hby hzs hsz v n xs hown a m c news hl (hcell a rfl).2 h1 h63 hbytes hbase
    exact ⟨v', w', hrun, h2, h3, h5⟩

theorem wp_append_rd {o : Oper} {a : Act} {K : Act → World → Prop} {Q : Exit → Act → World → Prop} (s x : Operand) (t : TypeId)
    (ho : o.op = .call { callee := .builtin .append, args := #[s, x], argTypes := #[t, t] })
    (base : Nat) (e : TypeId) (i : TypeInfo) (z : Value) (size bytes : Nat) (ht : P.underlying t = some (.slice e)) (hi : P.info? e = some i) (hz : i.zero = some z)
    (hsize : i.size = size) (hby : i.bytes = bytes) (hzs : z.cells.size = size) (hsz : 0 < size)
    (v : Value) (n : Nat) (xs : List Value) (hs : a.eval s = v) (hown : w.ownsRow base e size v n xs)
    (A : Option Addr) (m c : Nat) (news : List Value) (hx : a.eval x = .slice A m c) (hr : RdC w size A m c news) (h1 : ∀ u ∈ news, u.oneCell' = true)
    (h63 : n + m ≤ maxLen) (hbytes : (n + m) * bytes ≤ 140737488355328) (hbase : base ≤ w.heap.size)
    (h : ∀ v' w', Appended base e size w v n m xs news v' w' → K (a.put o.dst v') w') : o.wp P a w K Q := by
  obtain ⟨v', w', hrun, h2⟩ := run_append_rd (P := P) t o.type base e i z size bytes ht hi hz hsize hby hzs hsz v n xs hown A m c news hr h1 h63 hbytes hbase
  unfold Oper.wp execOp
  simp only [ho, resolve, invoke, builtin, Sem.run_bind, Sem.run_pure, Result.andThen_ok, List.map_toArray, List.map_cons, List.map_nil, hs, hx, hrun]
  exact h v' w' h2

theorem wpList_append_rd {ops : Array Oper} {rest : List Oper} {o : Oper} {a : Act} {Q : Exit → Act → World → Prop} (hgd : o.guard = none) (s x : Operand) (t : TypeId)
    (ho : o.op = .call { callee := .builtin .append, args := #[s, x], argTypes := #[t, t] })
    (base : Nat) (e : TypeId) (i : TypeInfo) (z : Value) (size bytes : Nat) (ht : P.underlying t = some (.slice e)) (hi : P.info? e = some i) (hz : i.zero = some z)
    (hsize : i.size = size) (hby : i.bytes = bytes) (hzs : z.cells.size = size) (hsz : 0 < size)
    (v : Value) (n : Nat) (xs : List Value) (hs : a.eval s = v) (hown : w.ownsRow base e size v n xs)
    (A : Option Addr) (m c : Nat) (news : List Value) (hx : a.eval x = .slice A m c) (hr : RdC w size A m c news) (h1 : ∀ u ∈ news, u.oneCell' = true)
    (h63 : n + m ≤ maxLen) (hbytes : (n + m) * bytes ≤ 140737488355328) (hbase : base ≤ w.heap.size)
    (h : ∀ v' w', Appended base e size w v n m xs news v' w' → wpList P ops Q rest (a.put o.dst v') w') : wpList P ops Q (o :: rest) a w :=
  wpList_plain hgd fun _ hK => wp_append_rd s x t ho base e i z size bytes ht hi hz hsize hby hzs hsz v n xs hs hown A m c news hx hr h1 h63 hbytes hbase fun v' w' h2 => hK _ _ (h v' w' h2)

theorem step_append_rd {ops : Array Oper} {o : Oper} {a : Act} {K : Act → World → Prop} {Q : Exit → Act → World → Prop} {E : Prop} (hgd : o.guard = none) (s x : Operand) (t : TypeId)
    (ho : o.op = .call { callee := .builtin .append, args := #[s, x], argTypes := #[t, t] })
    (base : Nat) (e : TypeId) (i : TypeInfo) (z : Value) (size bytes : Nat) (ht : P.underlying t = some (.slice e)) (hi : P.info? e = some i) (hz : i.zero = some z)
    (hsize : i.size = size) (hby : i.bytes = bytes) (hzs : z.cells.size = size) (hsz : 0 < size)
    (v : Value) (n : Nat) (xs : List Value) (hs : a.eval s = v) (hown : w.ownsRow base e size v n xs)
    (A : Option Addr) (m c : Nat) (news : List Value) (hx : a.eval x = .slice A m c) (hr : RdC w size A m c news) (h1 : ∀ u ∈ news, u.oneCell' = true)
    (h63 : n + m ≤ maxLen) (hbytes : (n + m) * bytes ≤ 140737488355328) (hbase : base ≤ w.heap.size)
    (h : ∀ v' w', Appended base e size w v n m xs news v' w' → K (a.put o.dst v') w') :
    if Region.wanted o (yielded ops a.tmps) = true then Oper.wp P o a w K Q else E := by
  have hw : Region.wanted o (yielded ops a.tmps) = true := by simp [Region.wanted, hgd]
  rw [if_pos hw]
  exact wp_append_rd s x t ho base e i z size bytes ht hi hz hsize hby hzs hsz v n xs hs hown A m c news hx hr h1 h63 hbytes hbase h
end

section
variable {base : Nat} {e : TypeId} {size : Nat} {w w' : World} {v v' : Value} {n m : Nat} {xs news : List Value}
theorem Appended.own (h : Appended base e size w v n m xs news v' w') : w'.ownsRow base e size v' (n + m) (xs ++ news) := h.1
theorem Appended.grown (h : Appended base e size w v n m xs news v' w') : w.grownBy w' v.ownBlock := h.2.1
theorem Appended.hsize (h : Appended base e size w v n m xs news v' w') : w.heap.size ≤ w'.heap.size := h.2.1.size
/-- what lies ahead of the base is as it was -/
theorem Appended.below (h : Appended base e size w v n m xs news v' w') (hown : w.ownsRow base e size v n xs) {B : Nat} {w0 : World} (hb : Below B w0 w) (hB : B ≤ base) (hB2 : B ≤ w.heap.size) : Below B w0 w' :=
  hb.grown h.2.1 hB2 (fun k hk => Nat.le_trans hB (hown.lt k hk).1)
theorem Appended.cell (h : Appended base e size w v n m xs news v' w') {p : Addr} {u : Value} (hp : w.cell? p = some u) (hne : v.ownBlock ≠ some p.block) : w'.cell? p = some u :=
  (World.cell?_of_block (h.2.1.block p.block (World.block_lt_of_cell? _ _ hp) (fun e => hne e.symm))).trans hp
theorem Appended.frozen (h : Appended base e size w v n m xs news v' w') {p : Addr} (hlt : p.block < w.heap.size) (hne : v.ownBlock ≠ some p.block) : w'.frozen? p = w.frozen? p :=
  World.frozen?_of_block (h.2.1.block p.block hlt (fun e => hne e.symm))
/-- the new row lies in the old one, or beyond all that was there -/
theorem Appended.apart (h : Appended base e size w v n m xs news v' w') {g : Nat} (hg : v.ownBlock ≠ some g) (hlt : g < w.heap.size) : v'.ownBlock ≠ some g := by
  rcases h.2.2 with h | h
  · rw [h]; exact hg
  · rw [h]; intro e; injection e; omega
end

end Go.Proofs.YtijjamiidpikdaaDoor
