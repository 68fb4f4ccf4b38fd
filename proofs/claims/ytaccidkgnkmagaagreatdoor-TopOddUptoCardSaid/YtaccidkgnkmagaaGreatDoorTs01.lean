/-
  Walks and laws of the whole machine: Kit, Row, Blk, St, Kind, RowAppend, Types. Conditions: each theorem names its own.
-/
import Derived.Test.YtaccidkgnkmagaaGreatDoorRows
import Derived.WalkKit
import Derived.WalkSpells
import Derived.WalkLawsBesides
import Derived.Lib.Hide
import Derived.Deep.Slices
import Derived.Laws.CopyRow
import Derived.Tactics
import Derived.Deep.RegionLaw
import Derived.Maps.AppendAt
import Derived.Laws.OwnMore
import Derived.RegionTactic
set_option maxRecDepth 16000
set_option maxHeartbeats 12800000
set_option linter.unusedVariables false
set_option linter.unusedSimpArgs false
namespace Go.Proofs.YtaccidkgnkmagaaGreatDoor
open Go.RowKit
theorem ret_bool{a b:Bool}(h:a=b):Ending.returned (.bool a)= .returned (.bool b):=by rw[h]
theorem jb{k:IntKind}{a b:Int}(h:a=b):Ending.returned (.int k a)= .returned (.int k b):=by rw[h]
theorem zj{p:Prop}(h:p):Hid p:=h
theorem bcell{W w1:World}(hb:Below W.heap.size W w1):(∀b o,b<W.heap.size->w1.cell? ⟨b,o,none⟩=W.cell? ⟨b,o,none⟩)/\(∀b o,b<W.heap.size->w1.frozen? ⟨b,o,none⟩=W.frozen? ⟨b,o,none⟩):=
 ⟨fun b o h=>hb.cell (p:=⟨b,o,none⟩) h,fun b o h=>hb.frozen (p:=⟨b,o,none⟩) h⟩
theorem xw(w:World)(o:Obj):Below w.heap.size w (w.alloc o):=(Below.refl _ _).alloc (Nat.le_refl _) o
theorem below_call{w w1:World}{o:Obj}(hb:Below (w.alloc o).heap.size (w.alloc o) w1):Below w.heap.size w w1:=(xw w o).trans (hb.mono (by simp))
theorem below_call2{w w1:World}{o p:Obj}(hb:Below ((w.alloc o).alloc p).heap.size ((w.alloc o).alloc p) w1):Below w.heap.size w w1:=((xw w o).alloc (by simp) p).trans (hb.mono (by simp;omega))
theorem ZQ(a:Addr)(n:Nat):(a.add n).block=a.block:=by unfold Addr.add;split<;>rfl
def RdC(w:World)(size:Nat)(A:Option Addr)(n c:Nat)(cs:List Value):Prop:=
 cs.length=n*size/\n<=c/\c<=maxLen/\(A=none->c=0)/\ ∀b,A=some b->(0<n->b.block<w.heap.size)/\ ∀j u,cs[j]? =some u->w.cell? (b.add j)=some u
section
variable{w w':World}{A:Option Addr}{n c size:Nat}{cs:List Value}
theorem RdC.nil(w:World)(size:Nat):RdC w size none 0 0 []:=⟨by simp,Nat.le_refl _,by simp[maxLen],fun _=>rfl,fun b h=>by cases h⟩
theorem RdC.keep(h:RdC w size A n c cs)(hs:w.heap.size<=w'.heap.size)(hk: ∀p:Addr,p.block<w.heap.size->w'.cell? p=w.cell? p):RdC w' size A n c cs:=by
 obtain⟨h1,h2,h3,h4,h5⟩:=h;refine⟨h1,h2,h3,h4,fun b hb=>⟨fun hn=>Nat.lt_of_lt_of_le ((h5 b hb).1 hn) hs,fun j u hu=> ?_⟩⟩;have hj:j<cs.length:=(List.getElem?_eq_some_iff.1 hu).1;have hn:0<n:=by
  rcases Nat.eq_zero_or_pos n with h0|h0
  ·subst h0;simp at h1;subst h1;simp at hj
  ·exact h0
 exact(hk _ (by rw[ZQ];exact(h5 b hb).1 hn)).trans ((h5 b hb).2 j u hu)
theorem RdC.below(h:RdC w size A n c cs)(hb:Below w.heap.size w w'):RdC w' size A n c cs:=h.keep hb.size fun _ hp=>hb.cell hp
theorem RdC.drew(h:RdC w size A n c cs):RdC w.drew size A n c cs:=h
theorem RdC.alloc(h:RdC w size A n c cs)(o:Obj):RdC (w.alloc o) size A n c cs:=h.below (xw w o)
theorem RdC.setCell(h:RdC w size A n c cs){p:Addr}(hp: ∀b,A=some b->b.block≠p.block)(v:Value):RdC (w.setCell p v) size A n c cs:=by
 obtain⟨h1,h2,h3,h4,h5⟩:=h;refine⟨h1,h2,h3,h4,fun b hb=>⟨fun hn=>by simpa[World.setCell] using(h5 b hb).1 hn,fun j u hu=> ?_⟩⟩;rw[World.cell?_setCell_other _ _ _ _ (fun e=>hp b hb (by rw[e,ZQ]))];exact(h5 b hb).2 j u hu
theorem RdC.lit(h:RdC w size A n c cs)(hn:0<n)(hs:0<size):
  ∃b o,A=some ⟨b,o,none⟩/\b<w.heap.size/\ ∀j u,cs[j]? =some u->w.cell? ⟨b,o+j,none⟩=some u:=by
 obtain⟨h1,h2,h3,h4,h5⟩:=h;cases A with
 |none=>have:=h4 rfl;omega
 |some a=>
  obtain⟨hb,hc⟩:=h5 a rfl;obtain⟨b,o,spot⟩:=a;have hl:0<cs.length:=by rw[h1];exact Nat.mul_pos hn hs
  have hs:spot=none:=by simpa[Addr.add] using World.cell?_spot (hc 0 _ (List.getElem?_eq_getElem hl))
  subst hs;have hadd: ∀j,(⟨b,o,none⟩:Addr).add j=⟨b,o+j,none⟩:=fun j=>by unfold Addr.add;split<;>simp_all
  exact⟨b,o,rfl,hb hn,fun j u hj=>by rw[<-hadd];exact hc j u hj⟩
theorem RdC.of_own{base:Nat}{e:TypeId}(h:w.ownsRow base e size (.slice A n c) n cs):RdC w size A n c cs:=by
 obtain⟨h1,h2⟩:=h;rcases h2 with⟨hv,rfl⟩|⟨g,cap,cur,hv,hg,hh,hnc,hcm,hsz,htake⟩
 ·injection hv with e1 e2 e3
  subst e1 e3;exact⟨h1,Nat.le_refl _,by simp[maxLen],fun _=>rfl,fun b h=>by cases h⟩
 ·injection hv with e1 e2 e3
  subst e1 e3;refine⟨h1,hnc,hcm,(fun h=>by cases h),fun b hb=> ?_⟩;injection hb with hb
  subst hb;have hlt:g<w.heap.size:=by
   rcases Nat.lt_or_ge g w.heap.size with h|h
   ·exact h
   ·rw[Array.getElem?_eq_none h] at hh;cases hh
  refine⟨fun _=>hlt,fun j u hu=> ?_⟩;have e:(⟨g,0,none⟩:Addr).add j=⟨g,j,none⟩:=by unfold Addr.add;split<;>simp_all
  rw[e];simp only[World.cell?,hh];rw[<-htake,List.getElem?_take] at hu;split at hu
  ·rw[<-hu];simp
  ·cases hu
end
theorem grown_below{w w':World}(h:w.grownBy w' none):Below w.heap.size w w':=(Below.refl _ _).grown h (Nat.le_refl _) (fun k hk=>by cases hk)
theorem below_drewN(w:World)(k:Nat):Below w.heap.size w (w.drewN k):=⟨rfl,rfl,rfl,Nat.le_refl _,fun _ _=>rfl⟩
theorem Below.drewN{B:Nat}{a w:World}(h:Below B a w)(k:Nat):Below B a (w.drewN k):=⟨h.os,h.tape,h.output,h.size,h.block⟩
theorem yb{w:World}{base size n:Nat}{e:TypeId}{v:Value}{xs:List Value}(h:w.ownsRow base e size v n xs): ∃A c,v= .slice A n c/\(∀b,A=some b->base<=b.block):=by
 rcases h.2 with⟨rfl,rfl⟩|⟨g,cap,cur,rfl,hg,_⟩
 ·exact⟨none,0,rfl,fun b h=>by cases h⟩
 ·exact⟨_,_,rfl,fun b h=>by injection h with h;subst h;exact hg⟩
theorem own_below{w:World}{base size n:Nat}{e:TypeId}{v:Value}{xs:List Value}(h:w.ownsRow base e size v n xs): ∀k,v.ownBlock=some k->base<=k:=by
 intro k hk;rcases h.2 with⟨rfl,rfl⟩|⟨g,cap,cur,rfl,hg,_⟩
 ·cases hk
 ·injection hk with hk;subst hk;exact hg
theorem heap_new(w:World)(o:Obj):(w.alloc o).heap[w.heap.size]? =some o:=by
 show(w.heap.push o)[w.heap.size]? =_;simp
theorem modify_at{B j:Nat}{v:Value}{cs:Array Value}{t:TypeId}{w:World}(h:w.heap[B]? =some (.cells cs t (0,0))):(w.setCell ⟨B,j,none⟩ v).heap[B]? =some (.cells (cs.setIfInBounds j v) t (0,0)):=by
 obtain⟨hlt,hk⟩:=Array.getElem?_eq_some_iff.1 h;show(w.heap.modify B _)[B]? =_;rw[Array.getElem?_eq_getElem (by rw[Array.size_modify];exact hlt),Array.getElem_modify_self,hk];rfl
def Blk(W:World)(B:Nat)(C:Array Value)(T:TypeId):Prop:=W.heap[B]? =some (.cells C T (0,0))
section
variable{W W':World}{B B':Nat}{C D:Array Value}{T:TypeId}
theorem Blk.rules(h:Blk W B C T):(∀j,W.cell? ⟨B,j,none⟩=C[j]?)/\(∀j,W.frozen? ⟨B,j,none⟩=false):=by
 unfold Blk at h;exact⟨fun j=>by simp[World.cell?,h],fun j=>by simp[World.frozen?,h]⟩
theorem Blk.lt(h:Blk W B C T):B<W.heap.size:=(Array.getElem?_eq_some_iff.1 h).1
theorem Blk.below(h:Blk W B C T)(hb:Below W.heap.size W W'):Blk W' B C T:=(hb.block B h.lt).trans h
theorem Blk.belowN{n:Nat}(h:Blk W B C T)(hb:Below n W W')(hn:B<n):Blk W' B C T:=(hb.block B hn).trans h
theorem Blk.alloc(h:Blk W B C T)(o:Obj):Blk (W.alloc o) B C T:=h.below (xw W o)
theorem Blk.drew(h:Blk W B C T):Blk W.drew B C T:=h
theorem Blk.drewN(h:Blk W B C T)(k:Nat):Blk (W.drewN k) B C T:=h
theorem Zj(W:World)(C:Array Value)(T:TypeId):Blk (W.alloc (.cells C T)) W.heap.size C T:=heap_new W _
theorem Blk.set(h:Blk W B C T)(j:Nat)(v:Value):Blk (W.setCell ⟨B,j,none⟩ v) B (C.setIfInBounds j v) T:=modify_at h
theorem Blk.other(h:Blk W B C T)(hne:B≠B')(j:Nat)(v:Value):Blk (W.setCell ⟨B',j,none⟩ v) B C T:=(Below.heap_setCell _ _ _ B hne).trans h
theorem Zq(h:Blk W B C T)(D:Array Value):Blk (W.setRow B D) B D T:=setRow_heap W B C D T _ h
theorem vG{n:Nat}{w0:World}(hb:Below n w0 W)(hn:n<=B)(D:Array Value):Below n w0 (W.setRow B D):=
 hb.trans ⟨rfl,rfl,rfl,by simp[World.setRow],fun k hk=>setRow_other W B k D (by omega)⟩
end
theorem zy{P:Program}{Q:Exit->Act->World->Prop}{a:Act}{w:World}{id:Nat}{c:Code}(h: ∀Q':Exit->Act->World->Prop,(∀e a w,Exit.inBlock id Q e a w->Q' e a w)->c.wp P Q' a w):(Code.block id c).wp P Q a w:=
 wp_block (h _ fun _ _ _ h=>h)
def yZ(C:Array Value):Prop:= ∀v∈C.toList,v.oneCell'=true
def patch(C:Array Value)(o:Nat)(D:Array Value):Array Value:=(C.toList.take o++D.toList++C.toList.drop (o+D.size)).toArray
theorem yd(C:Array Value)(o:Nat)(D:Array Value)(h:o+D.size<=C.size):(patch C o D).size=C.size:=by
 simp[patch];omega
theorem xU(C D:Array Value)(h:D.size=C.size):patch C 0 D=D:=by
 simp[patch,h,List.drop_eq_nil_of_le]
section
variable{P:Program}{w:World}
theorem qJ(T:TypeId)(b n:Nat)(C:Array Value)(t:TypeId)(hagg:(isAgg T).run P w= .ok true w)(hsz:(sizeOf T).run P w= .ok n w)(hn:C.size=n)(hk:Blk w b C t):(loadVar T ⟨b,0,none⟩).run P w= .ok (.agg C) w:=by
 have hl:=run_loadCells_list (P:=P) (w:=w) ⟨b,0,none⟩ C.toList (fun j v hj=>by
  have:(⟨b,0,none⟩:Addr).add j=⟨b,j,none⟩:=by unfold Addr.add;split<;>simp_all
  rw[this,hk.rules.1];simpa using hj)
 simp only[Array.length_toList,hn,Array.toArray_toList] at hl;simp[loadVar,hagg,hsz,hl]
theorem run_load_cells(T:TypeId)(b o n:Nat)(C:Array Value)(hagg:(isAgg T).run P w= .ok true w)(hsz:(sizeOf T).run P w= .ok n w)(hn:C.size=n)
  (hc: ∀j v,C[j]? =some v->w.cell? ⟨b,o+j,none⟩=some v):(Instr.loadAt T (.pointer (some ⟨b,o,none⟩))).run P w= .ok (.agg C) w:=by
 have hl:=run_loadCells_list (P:=P) (w:=w) ⟨b,o,none⟩ C.toList (fun j v hj=>by
  have:(⟨b,o,none⟩:Addr).add j=⟨b,o+j,none⟩:=by unfold Addr.add;split<;>simp_all
  rw[this];exact hc j v (by simpa using hj))
 simp only[Array.length_toList,hn,Array.toArray_toList] at hl;simp[Instr.loadAt,Instr.sureAddr,loadVar,hagg,hsz,hl]
theorem run_store_cells(T:TypeId)(b o:Nat)(C D:Array Value)(t:TypeId)(hk:Blk w b C t)(hsz:(sizeOf T).run P w= .ok D.size w)(hfit:o+D.size<=C.size)(h1:yZ D):
  (Instr.storeAt T (.pointer (some ⟨b,o,none⟩)) (.agg D)).run P w= .ok () (w.setRow b (patch C o D)):=by
 have hs:=run_storeCells_at (P:=P) b o t D.toList 0 C w hk (by simpa using hfit) h1;simp only[Nat.add_zero,Array.length_toList] at hs;simp[Instr.storeAt,Instr.sureAddr,storeVar,hsz,Value.cells,hs,patch]
theorem zZ{ops:Array Oper}{rest:List Oper}{o:Oper}{a:Act}{Q:Exit->Act->World->Prop}(hgd:o.guard=none)(s:Operand)(T:TypeId)(ho:o.op= .load T s)
  (b off n:Nat) (hs:a.eval s= .pointer (some ⟨b,off,none⟩)) (C:Array Value) (hagg:(isAgg T).run P w= .ok true w) (hsz:(sizeOf T).run P w= .ok n w) (hn:C.size=n)
  (hc: ∀j v,C[j]? =some v->w.cell? ⟨b,off+j,none⟩=some v)
  (h:wpList P ops Q rest (a.put o.dst (.agg C)) w):wpList P ops Q (o::rest) a w:=by
 refine wpList_plain hgd fun K hK=> ?_;have hrun:=run_load_cells (P:=P) T b off n C hagg hsz hn hc;unfold Oper.wp execOp;simp only[ho,hs,hrun,Sem.run_bind,Sem.run_pure,Result.andThen_ok];exact hK _ _ h
theorem gY{ops:Array Oper}{rest:List Oper}{o:Oper}{a:Act}{Q:Exit->Act->World->Prop}(hgd:o.guard=none)(s x:Operand)(T:TypeId)(ho:o.op= .store T s x)
  (b off:Nat) (hs:a.eval s= .pointer (some ⟨b,off,none⟩)) (D:Array Value) (hx:a.eval x= .agg D) (C:Array Value) (t:TypeId) (hk:Blk w b C t) (hsz:(sizeOf T).run P w= .ok D.size w) (hfit:off+D.size<=C.size) (h1:yZ D)
  (h:wpList P ops Q rest (a.put o.dst undef) (w.setRow b (patch C off D))):wpList P ops Q (o::rest) a w:=by
 refine wpList_plain hgd fun K hK=> ?_;have hrun:=run_store_cells (P:=P) T b off C D t hk hsz hfit h1;unfold Oper.wp execOp;simp only[ho,hs,hx,hrun,Sem.run_bind,Sem.run_pure,Result.andThen_ok];exact hK _ _ h
end
end Go.Proofs.YtaccidkgnkmagaaGreatDoor
namespace Go.Proofs.YtaccidkgnkmagaaGreatDoor.Top
open Go.RowKit
structure Only (M:Nat->Prop) (w w':World):Prop where
 os:w'.os=w.os
 tape:w'.tape=w.tape
 output:w'.output=w.output
 size:w.heap.size<=w'.heap.size
 block: ∀k,k<w.heap.size-> ¬M k->w'.heap[k]? =w.heap[k]?
section
variable{M M':Nat->Prop}{a b c w w':World}
theorem Only.refl(M:Nat->Prop)(w:World):Only M w w:=⟨rfl,rfl,rfl,Nat.le_refl _,fun _ _ _=>rfl⟩
theorem Only.trans(h:Only M a b)(k:Only M' b c)(hM: ∀x,x<a.heap.size->M' x->M x):Only M a c:=
 ⟨k.os.trans h.os,k.tape.trans h.tape,k.output.trans h.output,Nat.le_trans h.size k.size,
  fun i hi hn=>(k.block i (Nat.lt_of_lt_of_le hi h.size) (fun x=>hn (hM i hi x))).trans (h.block i hi hn)⟩
theorem Only.of_below(h:Below w.heap.size w w'):Only M w w':=⟨h.os,h.tape,h.output,h.size,fun k hk _=>h.block k hk⟩
theorem Only.below(h:Only (fun _=>False) w w'):Below w.heap.size w w':=⟨h.os,h.tape,h.output,h.size,fun k hk=>h.block k hk (fun x=>x)⟩
theorem Only.mono(h:Only M w w')(hM: ∀x,x<w.heap.size->M x->M' x):Only M' w w':=⟨h.os,h.tape,h.output,h.size,fun k hk hn=>h.block k hk (fun x=>hn (hM k hk x))⟩
theorem Only.alloc(w:World)(o:Obj):Only M w (w.alloc o):=Only.of_below (xw w o)
theorem Only.drew(w:World):Only M w w.drew:=⟨rfl,rfl,rfl,Nat.le_refl _,fun _ _ _=>rfl⟩
theorem Only.set{B:Nat}(hB:M B)(j:Nat)(v:Value):Only M w (w.setCell ⟨B,j,none⟩ v):=
 ⟨rfl,rfl,rfl,by simp[World.setCell],fun k _ hn=>Below.heap_setCell _ _ _ _ (fun e=>hn (by rw[show k=B from e];exact hB))⟩
theorem Only.put{B:Nat}(hB:M B)(D:Array Value):Only M w (w.setRow B D):=
 ⟨rfl,rfl,rfl,by simp[World.setRow],fun k _ hn=>setRow_other _ _ _ _ (fun e=>hn (by rw[show k=B from e];exact hB))⟩
theorem Only.cell(h:Only M w w'){p:Addr}(hp:p.block<w.heap.size)(hn: ¬M p.block):w'.cell? p=w.cell? p:=World.cell?_of_block (w:=w) (h.block p.block hp hn)
end
structure Per (G:(Nat->Prop)->World->Prop):Prop where
 step: ∀{X:Nat->Prop} {W W':World},G X W->Only X W W'->G X W'
 grow: ∀{X:Nat->Prop} {W:World} (b:Nat),W.heap.size<=b->G X W->G (fun k=>X k\/k=b) W
 sub: ∀{X Y:Nat->Prop} {W:World},(∀b,Y b->X b)->G X W->G Y W
theorem Per.below{G:(Nat->Prop)->World->Prop}(p:Per G){X:Nat->Prop}{W W':World}(h:G X W)(hb:Below W.heap.size W W'):G X W':=p.step h (Only.of_below hb)
theorem xZ:Per fun _ _=>True:=⟨fun _ _=>trivial,fun _ _ _=>trivial,fun _ _=>trivial⟩
theorem Zh(p:Prop):Per fun _ _=>p:=⟨fun h _=>h,fun _ _ h=>h,fun _ h=>h⟩
theorem Per.and{G H:(Nat->Prop)->World->Prop}(g:Per G)(h:Per H):Per fun X W=>G X W/\H X W:=
 ⟨fun x o=>⟨g.step x.1 o,h.step x.2 o⟩,fun b hb x=>⟨g.grow b hb x.1,h.grow b hb x.2⟩,fun hY x=>⟨g.sub hY x.1,h.sub hY x.2⟩⟩
theorem Per.ex{α:Sort _}{G:α->(Nat->Prop)->World->Prop}(g: ∀a,Per (G a)):Per fun X W=> ∃a,G a X W:=
 ⟨fun⟨a,x⟩ o=>⟨a,(g a).step x o⟩,fun b hb ⟨a,x⟩=>⟨a,(g a).grow b hb x⟩,fun hY ⟨a,x⟩=>⟨a,(g a).sub hY x⟩⟩
theorem Per.all{α:Sort _}{G:α->(Nat->Prop)->World->Prop}(g: ∀a,Per (G a)):Per fun X W=> ∀a,G a X W:=
 ⟨fun x o a=>(g a).step (x a) o,fun b hb x a=>(g a).grow b hb (x a),fun hY x a=>(g a).sub hY (x a)⟩
theorem Per.imp{p:Prop}{G:(Nat->Prop)->World->Prop}(g:Per G):Per fun X W=>p->G X W:=
 ⟨fun x o a=>g.step (x a) o,fun b hb x a=>g.grow b hb (x a),fun hY x a=>g.sub hY (x a)⟩
def yy(l:List (Array Value)):List Value:=l.flatMap Array.toList
theorem xz{size:Nat}{l:List (Array Value)}(h: ∀r∈l,r.size=size):(yy l).length=l.length*size:=by
 induction l with
 |nil=>simp[yy]
 |cons r l ih=>
  have h1:=h r (by simp);have h2:=ih (fun x hx=>h x (by simp[hx]));simp only[yy] at h2;simp only[yy,List.flatMap_cons,List.length_append,Array.length_toList,h1,List.length_cons,h2];rw[Nat.add_mul];omega
theorem flat_get{size:Nat}{l:List (Array Value)}(h: ∀r∈l,r.size=size){i j:Nat}{r:Array Value}{v:Value}(hi:l[i]? =some r)(hj:r[j]? =some v):(yy l)[i*size+j]? =some v:=by
 induction l generalizing i with
 |nil=>cases hi
 |cons q l ih=>
  have h1:=h q (by simp);simp only[yy,List.flatMap_cons];cases i with
  |zero=>
   simp only[List.getElem?_cons_zero] at hi;injection hi with hi;subst hi;have hlt:j<q.size:=(Array.getElem?_eq_some_iff.1 hj).1;rw[List.getElem?_append_left (by simp;omega)];simpa using hj
  |succ i=>
   simp only[List.getElem?_cons_succ] at hi;have:=ih (fun x hx=>h x (by simp[hx])) hi;rw[List.getElem?_append_right (by simp[h1,Nat.add_mul];omega)];have e:(i+1)*size+j-q.toList.length=i*size+j:=by simp[h1,Nat.add_mul];omega
   rw[e];exact this
theorem tS{α:Type _}{l:List α}{i:Nat}{a:α}:l.toArray.setIfInBounds i a=(l.set i a).toArray:=List.setIfInBounds_toArray ..
theorem t0{α:Type _}{x a:α}{l:List α}:(x::l).set 0 a=a::l:=rfl
theorem t1{α:Type _}{x a:α}{l:List α}{n:Nat}:(x::l).set (n+1) a=x::l.set n a:=rfl
theorem q0{α:Type _}{a:α}{l:List α}:(a::l)[0]? =some a:=rfl
theorem q1{α:Type _}{a:α}{l:List α}{i:Nat}:(a::l)[i+1]? =l[i]? :=rfl
def Sl(size:Nat)(v:Value)(l:List (Array Value))(X:Nat->Prop)(W:World):Prop:=
 ∃A c,v= .slice A l.length c/\RdC W size A l.length c (yy l)/\(∀r∈l,r.size=size)/\ ∀b,A=some b->0<l.length-> ¬X b.block
section
variable{size n c:Nat}{A:Option Addr}{v:Value}{l:List (Array Value)}{X:Nat->Prop}{W:World}
theorem qz(size:Nat)(X:Nat->Prop)(W:World):Sl size (.slice none 0 0) [] X W:=⟨none,0,rfl,RdC.nil W size,fun _ h=>(by cases h),fun _ h=>(by cases h)⟩
theorem zb(size:Nat)(v:Value)(l:List (Array Value)):Per (Sl size v l):=by
 refine⟨?_,?_,?_⟩
 ·rintro X W W' ⟨A,c,rfl,hr,hs,hA⟩ ho
  refine⟨A,c,rfl,?_,hs,hA⟩;obtain⟨h1,h2,h3,h4,h5⟩:=hr;refine⟨h1,h2,h3,h4,fun b hb=>⟨fun hn=>Nat.lt_of_lt_of_le ((h5 b hb).1 hn) ho.size,fun j u hu=> ?_⟩⟩;have hj:j<(yy l).length:=(List.getElem?_eq_some_iff.1 hu).1;have hn:0<l.length:=by
   rcases Nat.eq_zero_or_pos l.length with h0|h0
   ·rw[h1,h0] at hj;simp at hj
   ·exact h0
  exact(ho.cell (by rw[ZQ];exact(h5 b hb).1 hn) (by rw[ZQ];exact hA b hb hn)).trans ((h5 b hb).2 j u hu)
 ·rintro X W b hb ⟨A,c,rfl,hr,hs,hA⟩
  refine⟨A,c,rfl,hr,hs,fun p hp hn hx=> ?_⟩;rcases hx with hx|hx
  ·exact hA p hp hn hx
  ·have:=(hr.2.2.2.2 p hp).1 hn
   omega
 ·rintro X Y W hY ⟨A,c,rfl,hr,hs,hA⟩
  exact⟨A,c,rfl,hr,hs,fun p hp hn hx=>hA p hp hn (hY _ hx)⟩
theorem Sl.len(h:Sl size v l X W): ∃A c,v= .slice A l.length c/\l.length<=c/\c<=maxLen:=by
 obtain⟨A,c,e,hr,_⟩:=h;exact⟨A,c,e,hr.2.1,hr.2.2.1⟩
theorem Sl.row(h:Sl size (.slice A n c) l X W){i:Nat}{r:Array Value}(hi:l[i]? =some r)(h0:0<size):
  ∃b o,A=some ⟨b,o,none⟩/\b<W.heap.size/\ ¬X b/\r.size=size/\ ∀j u,r[j]? =some u->W.cell? ⟨b,o+i*size+j,none⟩=some u:=by
 obtain⟨A',c',e,hr,hs,hA⟩:=h;injection e with e1 e2 e3;subst e1 e2 e3;have hl:i<l.length:=(List.getElem?_eq_some_iff.1 hi).1;obtain⟨b,o,rfl,hb,hc⟩:=hr.lit (by omega) h0;refine⟨b,o,rfl,hb,hA _ rfl (by omega),hs r (List.mem_of_getElem? hi),fun j u hj=> ?_⟩;rw[Nat.add_assoc];exact hc _ _ (flat_get hs hi hj)
end
structure St (M:Nat->Prop) (X0:Nat->Prop) (w0:World) (bs:List (Nat×Array Value×TypeId)) (G:(Nat->Prop)->World->Prop) (X:Nat->Prop) (W:World):Prop where
 only:Only M w0 W
 sup: ∀b,X0 b->X b
 lt: ∀b,X b->b<W.heap.size
 own: ∀b,X b->b<w0.heap.size->X0 b
 box: ∀{i:Nat} {b:Nat} {C:Array Value} {T:TypeId},bs[i]? =some (b,C,T)->X b/\(b<w0.heap.size->M b)/\Blk W b C T
 nodup: ∀{i j:Nat} {x y:Nat×Array Value×TypeId},bs[i]? =some x->bs[j]? =some y->i≠j->x.1≠y.1
 fact:G X W
 per:Per G
section
variable{M X0 X:Nat->Prop}{w0 W W':World}{bs:List (Nat×Array Value×TypeId)}{G H:(Nat->Prop)->World->Prop}
theorem St.begin(hX: ∀b,X0 b->b<w0.heap.size)(g:G X0 w0)(p:Per G):St M X0 w0 [] G X0 w0:=
 ⟨Only.refl _ _,fun _ h=>h,hX,fun _ h _=>h,(fun h=>by cases h),(fun h=>by cases h),g,p⟩
theorem St.begin1{B:Nat}{C:Array Value}{T:TypeId}(hX: ∀b,X0 b->b<w0.heap.size)(hB:X0 B)(hk:Blk w0 B C T)(g:G X0 w0)(p:Per G):St (fun k=>k=B) X0 w0 [(B,C,T)] G X0 w0:=
 ⟨Only.refl _ _,fun _ h=>h,hX,fun _ h _=>h,(fun{i _ _ _} h=>by
  cases i with
  |zero=>simp only[List.getElem?_cons_zero] at h;injection h with h;injection h with h1 h2;injection h2 with h2 h3;subst h1 h2 h3;exact⟨hB,fun _=>rfl,hk⟩
  |succ i=>simp at h),(fun{i j _ _} h1 h2 hne=>by
  cases i<;>cases j<;>simp at h1 h2 hne),g,p⟩
theorem St.step(k:St M X0 w0 bs G X W)(o:Only (fun _=>False) W W'):St M X0 w0 bs G X W':=
 ⟨k.only.trans o (fun _ _ x=>x.elim),k.sup,fun b hb=>Nat.lt_of_lt_of_le (k.lt b hb) o.size,k.own,fun h=>⟨(k.box h).1,(k.box h).2.1,(k.box h).2.2.below o.below⟩,k.nodup,
  k.per.step k.fact (o.mono (fun _ _ x=>x.elim)),k.per⟩
theorem St.call(k:St M X0 w0 bs G X W)(hb:Below W.heap.size W W'):St M X0 w0 bs G X W':=k.step (Only.of_below hb)
theorem St.drew(k:St M X0 w0 bs G X W):St M X0 w0 bs G X W.drew:=k.step (Only.drew W)
theorem St.add(k:St M X0 w0 bs G X W)(h:H X W)(p:Per H):St M X0 w0 bs (fun X W=>G X W/\H X W) X W:=
 ⟨k.only,k.sup,k.lt,k.own,k.box,k.nodup,⟨k.fact,h⟩,k.per.and p⟩
theorem St.turn(k:St M X0 w0 bs G X W)(h:G X W->H X W)(p:Per H):St M X0 w0 bs H X W:=
 ⟨k.only,k.sup,k.lt,k.own,k.box,k.nodup,h k.fact,p⟩
theorem St.new(k:St M X0 w0 bs G X W)(C:Array Value)(T:TypeId):St M X0 w0 ((W.heap.size,C,T)::bs) G (fun b=>X b\/b=W.heap.size) (W.alloc (.cells C T)):=by
 refine⟨k.only.trans (M':=fun _=>False) (Only.alloc W _) (fun _ _ x=>x.elim),fun b h=> .inl (k.sup b h),?_,?_,?_,?_,?_,k.per⟩
 ·rintro b (h|rfl)
  ·have:=k.lt b h;simp;omega
  ·simp
 ·rintro b (h|rfl) hlt
  ·exact k.own b h hlt
  ·have:=k.only.size;omega
 ·intro i b C' T' h
  cases i with
  |zero=>
   simp only[List.getElem?_cons_zero] at h;injection h with h;injection h with h1 h2;injection h2 with h2 h3;subst h1 h2 h3;exact⟨.inr rfl,fun hlt=>(by have:=k.only.size;omega),Zj W C T⟩
  |succ i=>
   simp only[List.getElem?_cons_succ] at h;exact⟨.inl (k.box h).1,(k.box h).2.1,(k.box h).2.2.alloc _⟩
 ·intro i j x y h1 h2 hne
  cases i with
  |zero=>
   cases j with
   |zero=>exact absurd rfl hne
   |succ j=>
    simp only[List.getElem?_cons_zero,List.getElem?_cons_succ] at h1 h2;injection h1 with h1;subst h1;have:=k.lt _ (k.box h2).1;intro e;dsimp only at e;omega
  |succ i=>
   cases j with
   |zero=>
    simp only[List.getElem?_cons_zero,List.getElem?_cons_succ] at h1 h2;injection h2 with h2;subst h2;have:=k.lt _ (k.box h1).1;intro e;dsimp only at e;omega
   |succ j=>
    simp only[List.getElem?_cons_succ] at h1 h2;exact k.nodup h1 h2 (by omega)
 ·exact k.per.step (k.per.grow W.heap.size (Nat.le_refl _) k.fact) (Only.alloc W _)
theorem St.turned{i:Nat}{b:Nat}{C D:Array Value}{T:TypeId}(k:St M X0 w0 bs G X W)(hi:bs[i]? =some (b,C,T))(o:Only (fun x=>x=b) W W')(hk:Blk W' b D T)(hs:W'.heap.size=W.heap.size):
  St M X0 w0 (bs.set i (b,D,T)) G X W':=by
 have hb:=k.box hi;have hlen:i<bs.length:=(List.getElem?_eq_some_iff.1 hi).1;refine⟨k.only.trans o (fun x hx e=>by subst e;exact hb.2.1 hx),k.sup,fun x hx=>(by rw[hs];exact k.lt x hx),k.own,?_,?_,k.per.step k.fact (o.mono (fun x _ e=>by subst e;exact hb.1)),k.per⟩
 ·intro j b' C' T' hj
  by_cases e:j=i
  ·subst e
   rw[List.getElem?_set_self hlen] at hj;injection hj with hj;injection hj with h1 h2;injection h2 with h2 h3;subst h1 h2 h3;exact⟨hb.1,hb.2.1,hk⟩
  ·rw[List.getElem?_set_ne (Ne.symm e)] at hj
   have hx:=k.box hj;have hne:b'≠b:=k.nodup hj hi e;exact⟨hx.1,hx.2.1,(o.block b' hx.2.2.lt hne).trans hx.2.2⟩
 ·intro p q x y hp hq hne
  have ex: ∀{p:Nat} {x:Nat×Array Value×TypeId},(bs.set i (b,D,T))[p]? =some x-> ∃x',bs[p]? =some x' /\x'.1=x.1:=by
   intro p x hp;by_cases e:p=i
   ·subst e
    rw[List.getElem?_set_self hlen] at hp;injection hp with hp;subst hp;exact⟨_,hi,rfl⟩
   ·rw[List.getElem?_set_ne (Ne.symm e)] at hp
    exact⟨x,hp,rfl⟩
  obtain⟨x',hx,e1⟩:=ex hp;obtain⟨y',hy,e2⟩:=ex hq;rw[<-e1,<-e2];exact k.nodup hx hy hne
theorem St.set{i:Nat}{b:Nat}{C:Array Value}{T:TypeId}(k:St M X0 w0 bs G X W)(hi:bs[i]? =some (b,C,T))(j:Nat)(v:Value):St M X0 w0 (bs.set i (b,C.setIfInBounds j v,T)) G X (W.setCell ⟨b,j,none⟩ v):=
 k.turned hi (Only.set (M:=fun x=>x=b) rfl j v) ((k.box hi).2.2.set j v) (by simp[World.setCell])
theorem St.put{i:Nat}{b:Nat}{C:Array Value}{T:TypeId}(k:St M X0 w0 bs G X W)(hi:bs[i]? =some (b,C,T))(D:Array Value):St M X0 w0 (bs.set i (b,D,T)) G X (W.setRow b D):=
 k.turned hi (Only.put (M:=fun x=>x=b) rfl D) (Zq (k.box hi).2.2 D) (by simp[World.setRow])
theorem St.rules{i:Nat}{b:Nat}{C:Array Value}{T:TypeId}(k:St M X0 w0 bs G X W)(hi:bs[i]? =some (b,C,T)):(∀j,W.cell? ⟨b,j,none⟩=C[j]?)/\(∀j,W.frozen? ⟨b,j,none⟩=false):=(k.box hi).2.2.rules
theorem St.blk{i:Nat}{b:Nat}{C:Array Value}{T:TypeId}(k:St M X0 w0 bs G X W)(hi:bs[i]? =some (b,C,T)):Blk W b C T:=(k.box hi).2.2
theorem St.drop{n:Nat}(k:St M X0 w0 bs G X W):St M X0 w0 (bs.drop n) G X W:=
 ⟨k.only,k.sup,k.lt,k.own,(fun h=>k.box (by rw[List.getElem?_drop] at h;exact h)),(fun h1 h2 hne=>by rw[List.getElem?_drop] at h1 h2;exact k.nodup h1 h2 (by omega)),k.fact,k.per⟩
theorem St.out(k:St M X0 w0 bs G X W):G X0 W:=k.per.sub k.sup k.fact
theorem St.end(k:St (fun _=>False) X0 w0 bs G X W):Below w0.heap.size w0 W:=k.only.below
theorem St.callM{i:Nat}{b:Nat}{C D:Array Value}{T:TypeId}(k:St M X0 w0 bs G X W)(hi:bs[i]? =some (b,C,T))(hb:Below W.heap.size (W.setRow b D) W'):St M X0 w0 (bs.set i (b,D,T)) G X W':=
 (k.put hi D).call (by rw[show(W.setRow b D).heap.size=W.heap.size by simp[World.setRow]];exact hb)
end
section
variable{P:Program}{M X0 X:Nat->Prop}{w0 w:World}{bs:List (Nat×Array Value×TypeId)}{G:(Nat->Prop)->World->Prop}
variable{ops:Array Oper}{rest:List Oper}{o:Oper}{a:Act}{Q:Exit->Act->World->Prop}
theorem run_box(T:TypeId)(v:Value):(Instr.box T v).run P w= .ok (.pointer (some ⟨w.heap.size,0,none⟩)) (w.alloc (.cells v.cells T)):=by
 simp[go_sem]
theorem wpList_box_st(k:St M X0 w0 bs G X w)(hgd:o.guard=none)(T:TypeId)(s:Operand)(ho:o.op= .box T s)(v:Value)(hs:a.eval s=v)
  (h: ∀b X' w',St M X0 w0 ((b,v.cells,T)::bs) G X' w'->wpList P ops Q rest (a.put o.dst (.pointer (some ⟨b,0,none⟩))) w'):wpList P ops Q (o::rest) a w:=by
 refine wpList_plain hgd fun K hK=> ?_;unfold Oper.wp execOp;simp only[ho,hs,Sem.run_bind,run_box,Result.andThen_ok,Sem.run_pure];exact hK _ _ (h _ _ _ (k.new _ T))
theorem gj(k:St M X0 w0 bs G X w)(i:Nat)(hgd:o.guard=none)(s x:Operand)(T:TypeId)(ho:o.op= .store T s x)
  (b off:Nat) (hs:a.eval s= .pointer (some ⟨b,off,none⟩)) (D:Array Value) (v:Value) (hx:a.eval x=v) (hv:v.cells=D) (C:Array Value) (t:TypeId) (hi:bs[i]? =some (b,C,t)) (hsz:(sizeOf T).run P w= .ok D.size w) (hfit:off+D.size<=C.size) (h1:yZ D)
  (h: ∀w',St M X0 w0 (bs.set i (b,patch C off D,t)) G X w'->wpList P ops Q rest (a.put o.dst undef) w'):wpList P ops Q (o::rest) a w:=by
 refine wpList_plain hgd fun K hK=> ?_;have hst:=run_storeCells_at (P:=P) b off t D.toList 0 C w (k.blk hi) (by simpa using hfit) h1;simp only[Nat.add_zero,Array.length_toList] at hst;have hrun:(Instr.storeAt T (.pointer (some ⟨b,off,none⟩)) v).run P w= .ok () (w.setRow b (patch C off D)):=by
  simp[Instr.storeAt,Instr.sureAddr,storeVar,hsz,hv,hst,patch]
 unfold Oper.wp execOp;simp only[ho,hs,hx,hrun,Sem.run_bind,Sem.run_pure,Result.andThen_ok];exact hK _ _ (h _ (k.put hi _))
theorem wpList_load_st(k:St M X0 w0 bs G X w)(i:Nat)(hgd:o.guard=none)(s:Operand)(T:TypeId)(ho:o.op= .load T s)
  (b off n:Nat) (hs:a.eval s= .pointer (some ⟨b,off,none⟩)) (C:Array Value) (t:TypeId) (hi:bs[i]? =some (b,C,t)) (hagg:(isAgg T).run P w= .ok true w) (hsz:(sizeOf T).run P w= .ok n w) (D:Array Value) (hD:C.extract off (off+n)=D) (hfit:off+n<=C.size)
  (h:wpList P ops Q rest (a.put o.dst (.agg D)) w):wpList P ops Q (o::rest) a w:=by
 subst hD;have hn:(C.extract off (off+n)).size=n:=by simp;omega
 refine zZ hgd s T ho b off n hs _ hagg hsz hn ?_ h;intro j v hj;rw[(k.rules hi).1];rw[Array.getElem?_extract] at hj;split at hj
 ·exact hj
 ·cases hj
end
def Zp(P:Program)(F:FuncId):Prop:= ∃fn,P.funcs[F]? =some fn/\(fn.name== "runtime.NumGoroutine")=false/\fn.body.isNone=false
section
variable{P:Program}{w:World}{ops:Array Oper}{rest:List Oper}{o:Oper}{a:Act}{Q:Exit->Act->World->Prop}
theorem yk{F:FuncId}(h:Zp P F)(args:Array Value):(callFunc F args).run P w= .ok (.enter F args) w:=by
 obtain⟨fn,h1,h2,h3⟩:=h;have h2': ¬fn.name= "runtime.NumGoroutine" :=by simpa using h2
 have h3': ¬fn.body=none:=fun e=>by rw[e] at h3;cases h3
 simp[callFunc,program,Sem.run,h1,h2',h3']
end
inductive Kd where
 |i64|u32|u64|bool|str (n:Nat)
def okV:Kd->Value->Prop
 | .i64,v=> ∃x:Int,v= .int .i64 x/\ -9223372036854775808<=x/\x<=9223372036854775807
 | .u32,v=> ∃x:Int,v= .int .u32 x/\0<=x/\x<4294967296
 | .u64,v=> ∃x:Int,v= .int .u64 x/\0<=x/\x<18446744073709551616
 | .bool,v=> ∃b:Bool,v= .bool b
 | .str n,v=> ∃s:ByteArray,v= .string s/\s.size<=n
theorem okV.one{k:Kd}{v:Value}(h:okV k v):v.oneCell'=true:=by
 cases k with
 |i64=>obtain⟨x,rfl,_⟩:=h;rfl
 |u32=>obtain⟨x,rfl,_⟩:=h;rfl
 |u64=>obtain⟨x,rfl,_⟩:=h;rfl
 |bool=>obtain⟨b,rfl⟩:=h;rfl
 |str n=>obtain⟨s,rfl,_⟩:=h;rfl
theorem yY{x:Int}(h0: -9223372036854775808<=x)(h1:x<=9223372036854775807):okV .i64 (.int .i64 x):=⟨x,rfl,h0,h1⟩
theorem ju{x:Int}(h0:0<=x)(h1:x<4294967296):okV .u32 (.int .u32 x):=⟨x,rfl,h0,h1⟩
theorem ok_u64{x:Int}(h0:0<=x)(h1:x<18446744073709551616):okV .u64 (.int .u64 x):=⟨x,rfl,h0,h1⟩
theorem ok_bool(b:Bool):okV .bool (.bool b):=⟨b,rfl⟩
theorem Zk{n:Nat}{s:ByteArray}(h:s.size<=n):okV (.str n) (.string s):=⟨s,rfl,h⟩
def TyL:List Kd->List Value->Prop
 |[],[]=>True
 |k::ks,v::vs=>okV k v/\TyL ks vs
 |_,_=>False
theorem TyL.len: ∀{ks:List Kd} {l:List Value},TyL ks l->l.length=ks.length
 |[],[],_=>rfl
 |_::_,_::_,h=>by simp[TyL.len h.2]
 |[],_::_,h=>h.elim
 |_::_,[],h=>h.elim
theorem TyL.get: ∀{ks:List Kd} {l:List Value} {j:Nat} {k:Kd},TyL ks l->ks[j]? =some k-> ∃v,l[j]? =some v/\okV k v
 |_::_,_::_,0,_,h,hk=>by
  simp only[List.getElem?_cons_zero] at hk;injection hk with hk;subst hk;exact⟨_,rfl,h.1⟩
 |_::_,_::_,j+1,_,h,hk=>by
  simp only[List.getElem?_cons_succ] at hk⊢;exact TyL.get h.2 hk
 |[],[],_,_,_,hk=>by simp at hk
 |[],_::_,_,_,h,_=>h.elim
 |_::_,[],_,_,h,_=>h.elim
theorem TyL.of: ∀{ks:List Kd} {l:List Value},l.length=ks.length->(∀(j:Nat) (k:Kd) (v:Value),ks[j]? =some k->l[j]? =some v->okV k v)->TyL ks l
 |[],[],_,_=>trivial
 |k::ks,v::l,hl,h=>⟨h 0 k v rfl rfl,TyL.of (by simpa using hl) (fun j k' v' hk hv=>h (j+1) k' v' (by simpa using hk) (by simpa using hv))⟩
 |[],_::_,hl,_=>by simp at hl
 |_::_,[],hl,_=>by simp at hl
def Ty(ks:List Kd)(C:Array Value):Prop:=TyL ks C.toList
section
variable{ks ks':List Kd}{C D:Array Value}
theorem Ty.size(h:Ty ks C):C.size=ks.length:=by have:=TyL.len h;simpa using this
theorem Ty.get(h:Ty ks C){j:Nat}{k:Kd}(hk:ks[j]? =some k): ∃v,C[j]? =some v/\okV k v:=by
 obtain⟨v,hv,ho⟩:=TyL.get h hk;exact⟨v,by simpa using hv,ho⟩
theorem Ty.i64(h:Ty ks C)(j:Nat)(hk:ks[j]? =some .i64): ∃x:Int,C[j]? =some (.int .i64 x)/\ -9223372036854775808<=x/\x<=9223372036854775807:=by
 obtain⟨v,hv,x,rfl,h0⟩:=h.get hk;exact⟨x,hv,h0⟩
theorem Ty.u32(h:Ty ks C)(j:Nat)(hk:ks[j]? =some .u32): ∃x:Int,C[j]? =some (.int .u32 x)/\0<=x/\x<4294967296:=by
 obtain⟨v,hv,x,rfl,h0⟩:=h.get hk;exact⟨x,hv,h0⟩
theorem Ty.u64(h:Ty ks C)(j:Nat)(hk:ks[j]? =some .u64): ∃x:Int,C[j]? =some (.int .u64 x)/\0<=x/\x<18446744073709551616:=by
 obtain⟨v,hv,x,rfl,h0⟩:=h.get hk;exact⟨x,hv,h0⟩
theorem Ty.bool(h:Ty ks C)(j:Nat)(hk:ks[j]? =some .bool): ∃b:Bool,C[j]? =some (.bool b):=by
 obtain⟨v,hv,b,rfl⟩:=h.get hk;exact⟨b,hv⟩
theorem Ty.str(h:Ty ks C)(j:Nat){n:Nat}(hk:ks[j]? =some (.str n)): ∃s:ByteArray,C[j]? =some (.string s)/\s.size<=n:=by
 obtain⟨v,hv,s,rfl,h0⟩:=h.get hk;exact⟨s,hv,h0⟩
theorem Ty.of(hl:C.size=ks.length)(h: ∀(j:Nat) (k:Kd) (v:Value),ks[j]? =some k->C[j]? =some v->okV k v):Ty ks C:=
 TyL.of (by simpa using hl) (fun j k v hk hv=>h j k v hk (by simpa using hv))
theorem Ty.one(h:Ty ks C):yZ C:=by
 intro v hv;obtain⟨j,hj,e⟩:=List.getElem_of_mem hv;have hj':j<ks.length:=by rw[<-h.size];simpa using hj
 obtain⟨v',hv',ho⟩:=h.get (List.getElem?_eq_getElem hj');have:C[j]? =some v:=by
  have hj2:j<C.size:=by simpa using hj
  rw[Array.getElem?_eq_getElem hj2];simpa using e
 rw[this] at hv';injection hv' with hv';subst hv';exact ho.one
theorem Ty.set(h:Ty ks C){j:Nat}{k:Kd}{v:Value}(hk:ks[j]? =some k)(hv:okV k v):Ty ks (C.setIfInBounds j v):=by
 refine Ty.of (by simpa using h.size) (fun i k' v' hk' hv'=> ?_);by_cases e:j=i
 ·subst e
  rw[hk] at hk';injection hk' with hk';subst hk';have hlt:j<C.size:=by rw[h.size];exact(List.getElem?_eq_some_iff.1 hk).1
  rw[Array.getElem?_setIfInBounds_self_of_lt hlt] at hv';injection hv' with hv';subst hv';exact hv
 ·rw[Array.getElem?_setIfInBounds_ne e] at hv'
  obtain⟨v2,h2,ho⟩:=h.get hk';rw[h2] at hv';injection hv' with hv';subst hv';exact ho
theorem jw(C D:Array Value)(o j:Nat)(hj:j<o)(ho:o<=C.size):(patch C o D)[j]? =C[j]? :=by
 have h1:o<=C.toList.length:=by simpa using ho
 simp only[patch,List.getElem?_toArray];rw[List.append_assoc,List.getElem?_append_left (by simp;omega),List.getElem?_take,if_pos hj];simp
theorem Zt(C D:Array Value)(o j:Nat)(hj:j<D.size)(ho:o<=C.size):(patch C o D)[o+j]? =D[j]? :=by
 have h1:o<=C.toList.length:=by simpa using ho
 simp only[patch,List.getElem?_toArray];rw[List.append_assoc,List.getElem?_append_right (by simp;omega)];have e:o+j-(C.toList.take o).length=j:=by simp;omega
 rw[e,List.getElem?_append_left (by simpa using hj)];simp
theorem gU(C D:Array Value)(o j:Nat)(hj:o+D.size<=j)(ho:o<=C.size):(patch C o D)[j]? =C[j]? :=by
 have h1:o<=C.toList.length:=by simpa using ho
 simp only[patch,List.getElem?_toArray];rw[List.append_assoc,List.getElem?_append_right (by simp;omega),List.getElem?_append_right (by simp;omega)];have e:o+D.size+(j-(C.toList.take o).length-D.toList.length)=j:=by simp;omega
 rw[List.getElem?_drop,e];simp
theorem Ty.patch(h:Ty ks C)(g:Ty ks' D)(o:Nat)(hk:(ks.drop o).take ks'.length=ks')(hfit:o+ks'.length<=ks.length):Ty ks (Go.Proofs.YtaccidkgnkmagaaGreatDoor.patch C o D):=by
 have hs:=h.size;have gs:=g.size;refine Ty.of (by rw[yd C o D (by omega)];exact hs) (fun j k v hj hv=> ?_);have hjk: ∀i,i<ks'.length->ks'[i]? =ks[o+i]? :=fun i hi=>by
  have e:ks'[i]? =((ks.drop o).take ks'.length)[i]? :=by rw[hk]
  rw[e,List.getElem?_take,if_pos hi,List.getElem?_drop]
 rcases Nat.lt_or_ge j o with h1|h1
 ·rw[jw C D o j h1 (by omega)] at hv
  obtain⟨v2,h2,ho⟩:=h.get hj;rw[h2] at hv;injection hv with hv;subst hv;exact ho
 ·rcases Nat.lt_or_ge j (o+D.size) with h2|h2
  ·obtain⟨i,rfl⟩: ∃i,j=o+i:=⟨j-o,by omega⟩
   rw[Zt C D o i (by omega) (by omega)] at hv;obtain⟨v2,h3,ho⟩:=g.get (j:=i) (k:=k) (by rw[hjk i (by omega)];exact hj);rw[h3] at hv;injection hv with hv;subst hv;exact ho
  ·rw[gU C D o j h2 (by omega)] at hv
   obtain⟨v2,h3,ho⟩:=h.get hj;rw[h3] at hv;injection hv with hv;subst hv;exact ho
theorem Ty.part(h:Ty ks C)(o n:Nat)(hfit:o+n<=ks.length):Ty ((ks.drop o).take n) (C.extract o (o+n)):=by
 have hs:=h.size;refine Ty.of (by simp;omega) (fun j k v hk hv=> ?_);have hj:j<n:=by
  have:=(List.getElem?_eq_some_iff.1 hk).1;simp at this;omega
 rw[List.getElem?_take,if_pos hj,List.getElem?_drop] at hk;rw[Array.getElem?_extract] at hv;split at hv
 ·obtain⟨v2,h3,ho⟩:=h.get hk
  rw[h3] at hv;injection hv with hv;subst hv;exact ho
 ·cases hv
end
def vZ:List Kd:=[.u32,.u32,.u32,.u32,.u32,.u32,.u32,.u32,.u32]
def kEnd:List Kd:=[.i64,.bool]
def kFds:List Kd:=[.i64,.bool,.i64,.bool,.i64,.bool,.i64,.bool]
def kCall:List Kd:=[.u32,.u32,.u32,.u32]
def yu:List Kd:=[.i64,.i64,.i64,.u32,.u32,.u32,.u32,.u32,.u32,.u32,.u32,.u32,.str 64,.i64,.i64,.bool,.i64,.bool,.i64,.bool,.i64,.bool,.u32,.u32,.u32,.u32]
def vQ:List Kd:=[.u64,.i64]
def vv:List Kd:=[.i64,.i64,.i64]
def vl:List Kd:=[.str 8,.i64,.i64]
def kEvent:List Kd:=[.i64,.u32,.u32,.u64]
def kOut:List Kd:=[.i64,.str 64]
def gx:List Kd:=[.i64,.i64,.i64,.i64,.i64]
def kPart:List Kd:=[.i64,.i64,.i64,.i64]
def kWin:List Kd:=[.i64,.i64,.i64]
def kMsg:List Kd:=[.u64,.str 64]
def PC(C:Array Value)(pid par st:Int):Prop:=Ty yu C/\C[0]? =some (.int .i64 pid)/\C[1]? =some (.int .i64 par)/\C[2]? =some (.int .i64 st)
theorem PC.size{C:Array Value}{pid par st:Int}(h:PC C pid par st):C.size=26:=h.1.size
end Go.Proofs.YtaccidkgnkmagaaGreatDoor.Top
namespace Go.Proofs.YtaccidkgnkmagaaGreatDoor
open Go.RowKit
def Appended(base:Nat)(e:TypeId)(size:Nat)(w:World)(v:Value)(n m:Nat)(xs news:List Value)(v':Value)(w':World):Prop:=
 w'.ownsRow base e size v' (n+m) (xs++news)/\w.grownBy w' v.ownBlock/\(v'.ownBlock=v.ownBlock\/v'.ownBlock=some w.heap.size)
section
variable{P:Program}{w:World}
theorem run_append_rd(t ty:TypeId)(base:Nat)(e:TypeId)(i:TypeInfo)(z:Value)(size bytes:Nat)(ht:P.underlying t=some (.slice e))(hi:P.info? e=some i)(hz:i.zero=some z)
  (hsize:i.size=size) (hby:i.bytes=bytes) (hzs:z.cells.size=size) (hsz:0<size)
  (v:Value) (n:Nat) (xs:List Value) (hown:w.ownsRow base e size v n xs) (A:Option Addr) (m c:Nat) (news:List Value) (hr:RdC w size A m c news) (h1: ∀u∈news,u.oneCell'=true)
  (h63:n+m<=maxLen) (hbytes:(n+m)*bytes<=140737488355328) (hbase:base<=w.heap.size):
  ∃v' w',(Builtin.append_ #[t,t] ty #[v,.slice A m c]).run P w= .ok v' w' /\Appended base e size w v n m xs news v' w':=by
 obtain⟨hl,hmc,hcm,h0,hcell⟩:=hr;cases A with
 |none=>
  obtain rfl:c=0:=h0 rfl;obtain rfl:m=0:=by omega
  have hn:news=[]:=List.eq_nil_of_length_eq_zero (by simpa using hl);subst hn;refine⟨v,w,run_append_owned_none w base t ty e i size ht hi v n xs hown,by simpa using hown,⟨rfl,rfl,rfl,Nat.le_refl _,fun _ _ _=>rfl⟩,.inl rfl⟩
 |some a=>
  obtain⟨v',w',hrun,h2,h3,_,h5⟩:=run_append_own_at (P:=P) w base t ty e i z size bytes ht hi hz hsize hby hzs hsz v n xs hown a m c news hl (hcell a rfl).2 h1 h63 hbytes hbase;exact⟨v',w',hrun,h2,h3,h5⟩
theorem wp_append_rd{o:Oper}{a:Act}{K:Act->World->Prop}{Q:Exit->Act->World->Prop}(s x:Operand)(t:TypeId)
  (ho:o.op= .call {callee:= .builtin .append,args:= #[s,x],argTypes:= #[t,t]})
  (base:Nat) (e:TypeId) (i:TypeInfo) (z:Value) (size bytes:Nat) (ht:P.underlying t=some (.slice e)) (hi:P.info? e=some i) (hz:i.zero=some z)
  (hsize:i.size=size) (hby:i.bytes=bytes) (hzs:z.cells.size=size) (hsz:0<size)
  (v:Value) (n:Nat) (xs:List Value) (hs:a.eval s=v) (hown:w.ownsRow base e size v n xs)
  (A:Option Addr) (m c:Nat) (news:List Value) (hx:a.eval x= .slice A m c) (hr:RdC w size A m c news) (h1: ∀u∈news,u.oneCell'=true)
  (h63:n+m<=maxLen) (hbytes:(n+m)*bytes<=140737488355328) (hbase:base<=w.heap.size)
  (h: ∀v' w',Appended base e size w v n m xs news v' w'->K (a.put o.dst v') w'):o.wp P a w K Q:=by
 obtain⟨v',w',hrun,h2⟩:=run_append_rd (P:=P) t o.type base e i z size bytes ht hi hz hsize hby hzs hsz v n xs hown A m c news hr h1 h63 hbytes hbase;unfold Oper.wp execOp;simp only[ho,resolve,invoke,builtin,Sem.run_bind,Sem.run_pure,Result.andThen_ok,List.map_toArray,List.map_cons,List.map_nil,hs,hx,hrun];exact h v' w' h2
theorem wpList_append_rd{ops:Array Oper}{rest:List Oper}{o:Oper}{a:Act}{Q:Exit->Act->World->Prop}(hgd:o.guard=none)(s x:Operand)(t:TypeId)
  (ho:o.op= .call {callee:= .builtin .append,args:= #[s,x],argTypes:= #[t,t]})
  (base:Nat) (e:TypeId) (i:TypeInfo) (z:Value) (size bytes:Nat) (ht:P.underlying t=some (.slice e)) (hi:P.info? e=some i) (hz:i.zero=some z)
  (hsize:i.size=size) (hby:i.bytes=bytes) (hzs:z.cells.size=size) (hsz:0<size)
  (v:Value) (n:Nat) (xs:List Value) (hs:a.eval s=v) (hown:w.ownsRow base e size v n xs)
  (A:Option Addr) (m c:Nat) (news:List Value) (hx:a.eval x= .slice A m c) (hr:RdC w size A m c news) (h1: ∀u∈news,u.oneCell'=true)
  (h63:n+m<=maxLen) (hbytes:(n+m)*bytes<=140737488355328) (hbase:base<=w.heap.size)
  (h: ∀v' w',Appended base e size w v n m xs news v' w'->wpList P ops Q rest (a.put o.dst v') w'):wpList P ops Q (o::rest) a w:=
 wpList_plain hgd fun _ hK=>wp_append_rd s x t ho base e i z size bytes ht hi hz hsize hby hzs hsz v n xs hs hown A m c news hx hr h1 h63 hbytes hbase fun v' w' h2=>hK _ _ (h v' w' h2)
end
section
variable{base:Nat}{e:TypeId}{size:Nat}{w w':World}{v v':Value}{n m:Nat}{xs news:List Value}
theorem Appended.own(h:Appended base e size w v n m xs news v' w'):w'.ownsRow base e size v' (n+m) (xs++news):=h.1
theorem Appended.grown(h:Appended base e size w v n m xs news v' w'):w.grownBy w' v.ownBlock:=h.2.1
theorem Appended.hsize(h:Appended base e size w v n m xs news v' w'):w.heap.size<=w'.heap.size:=h.2.1.size
theorem Appended.below(h:Appended base e size w v n m xs news v' w')(hown:w.ownsRow base e size v n xs){B:Nat}{w0:World}(hb:Below B w0 w)(hB:B<=base)(hB2:B<=w.heap.size):Below B w0 w':=
 hb.grown h.2.1 hB2 (fun k hk=>Nat.le_trans hB (hown.lt k hk).1)
theorem Appended.cell(h:Appended base e size w v n m xs news v' w'){p:Addr}{u:Value}(hp:w.cell? p=some u)(hne:v.ownBlock≠some p.block):w'.cell? p=some u:=
 (World.cell?_of_block (h.2.1.block p.block (World.block_lt_of_cell? _ _ hp) (fun e=>hne e.symm))).trans hp
theorem Appended.frozen(h:Appended base e size w v n m xs news v' w'){p:Addr}(hlt:p.block<w.heap.size)(hne:v.ownBlock≠some p.block):w'.frozen? p=w.frozen? p:=
 World.frozen?_of_block (h.2.1.block p.block hlt (fun e=>hne e.symm))
theorem Appended.apart(h:Appended base e size w v n m xs news v' w'){g:Nat}(hg:v.ownBlock≠some g)(hlt:g<w.heap.size):v'.ownBlock≠some g:=by
 rcases h.2.2 with h|h
 ·rw[h];exact hg
 ·rw[h];intro e;injection e;omega
end
end Go.Proofs.YtaccidkgnkmagaaGreatDoor
namespace Go.Proofs.YtaccidkgnkmagaaGreatDoor.Top
open Go.RowKit
def ElT(e t size bytes:Nat):Prop:=Tryz.prog.underlying t=some (.slice e)/\ ∃i z,Tryz.prog.info? e=some i/\i.zero=some z/\i.size=size/\i.bytes=bytes/\z.cells.size=size/\z.cells.all (·.oneCell')=true
theorem jI{e t size bytes:Nat}(h0:Tryz.prog.underlying t=some (.slice e))(h:((Tryz.prog.info? e).map fun i=>(i.zero.map fun z=>(z.cells.size,z.cells.all (·.oneCell')),i.size,i.bytes))=some (some (size,true),size,bytes)):ElT e t size bytes:=by
 refine⟨h0,?_⟩;cases hi:Tryz.prog.info? e with
 |none=>rw[hi] at h;cases h
 |some i=>
  rw[hi] at h;simp only[Option.map_some,Option.some.injEq,Prod.mk.injEq] at h;obtain⟨h1,h2,h3⟩:=h;cases hz:i.zero with
  |none=>rw[hz] at h1;cases h1
  |some z=>
   rw[hz] at h1;simp only[Option.map_some,Option.some.injEq,Prod.mk.injEq] at h1;exact⟨i,z,rfl,hz,h2,h3,h1.1,h1.2⟩
theorem gG:ElT 132 42 26 168:=jI Tryz.underlying42 (by kernel_rfl)
theorem jl:ElT 165 48 3 24:=jI Tryz.underlying48 (by kernel_rfl)
theorem vg:ElT 219 46 2 16:=jI Tryz.underlying46 (by kernel_rfl)
theorem elInt:ElT 3 43 1 8:=jI Tryz.underlying43 (by kernel_rfl)
theorem elWin:ElT 59 23 1 24:=jI Tryz.underlying23 (by kernel_rfl)
theorem elPart:ElT 76 22 4 32:=jI Tryz.underlying22 (by kernel_rfl)
theorem elChan:ElT 87 24 5 40:=jI Tryz.underlying24 (by kernel_rfl)
theorem elPipe:ElT 170 47 3 32:=jI Tryz.underlying47 (by kernel_rfl)
theorem elStr:ElT 9 51 1 16:=jI Tryz.underlying51 (by kernel_rfl)
theorem elBox:ElT 72 52 2 32:=jI Tryz.underlying52 (by kernel_rfl)
theorem elSeat:ElT 58 33 19 336:=jI Tryz.underlying33 (by kernel_rfl)
theorem elStamps:ElT 143 34 1 24:=jI Tryz.underlying34 (by kernel_rfl)
theorem elEvent:ElT 68 53 4 24:=jI Tryz.underlying53 (by kernel_rfl)
theorem elOut:ElT 137 54 2 24:=jI Tryz.underlying54 (by kernel_rfl)
theorem elStamp:ElT 146 143 3 32:=jI Tryz.underlying143 (by kernel_rfl)
section
variable{ops:Array Oper}{rest:List Oper}{o:Oper}{a:Act}{Q:Exit->Act->World->Prop}{w:World}
theorem yO{e t size bytes:Nat}(E:ElT e t size bytes)(hsz:0<size)(hgd:o.guard=none)(s x:Operand)(ho:o.op= .call {callee:= .builtin .append,args:= #[s,x],argTypes:= #[t,t]})(base:Nat)
  (v:Value) (l:List (Array Value)) (hs:a.eval s=v) (hown:w.ownsRow base e size v l.length (yy l)) (X:Nat->Prop) (u:Value) (k:List (Array Value)) (hx:a.eval x=u) (hr:Sl size u k X w) (h1: ∀r∈k,yZ r)
  (hle:l.length+k.length<=200000000) (hby:bytes<=500) (hbase:base<=w.heap.size)
  (h: ∀v' w',w'.ownsRow base e size v' (l++k).length (yy (l++k))->Below base w w'->w.heap.size<=w'.heap.size->(v'.ownBlock=v.ownBlock\/v'.ownBlock=some w.heap.size)->w.grownBy w' v.ownBlock->wpList Tryz.prog ops Q rest (a.put o.dst v') w'):wpList Tryz.prog ops Q (o::rest) a w:=by
 obtain⟨ht,i,z,hi,hz,hs1,hb1,hzs,_⟩:=E;obtain⟨A,c,rfl,hr,hrs,_⟩:=hr;refine wpList_append_rd hgd s x t ho base e i z size bytes ht hi hz hs1 hb1 hzs hsz v l.length (yy l) hs hown A k.length c (yy k) hx hr ?_ (by unfold maxLen;omega) ?_ hbase (fun v' w' hA=> ?_)
 ·intro u hu
  obtain⟨r,hr,hu⟩:=List.mem_flatMap.1 hu;exact h1 r hr u hu
 ·have:(l.length+k.length)*bytes<=200000000*500:=Nat.mul_le_mul hle hby
  omega
 ·have hb:=hA.below hown (Below.refl base w) (Nat.le_refl _) hbase
  refine h v' w' ?_ hb hA.hsize hA.2.2 hA.grown;have:=hA.own;rw[List.length_append,show yy (l++k)=yy l++yy k from by simp[yy]];exact this
end
theorem zV{base e size:Nat}{v:Value}{l:List (Array Value)}{X:Nat->Prop}{W:World}(h:W.ownsRow base e size v l.length (yy l))(hs: ∀r∈l,r.size=size)(hX: ∀b,X b->b<base):Sl size v l X W:=by
 obtain⟨A,c,rfl,hA⟩:=yb h;exact⟨A,c,rfl,RdC.of_own h,hs,fun b hb _ hx=>by have:=hX _ hx;have:=hA b hb;omega⟩
section
variable{ops:Array Oper}{rest:List Oper}{o:Oper}{a:Act}{Q:Exit->Act->World->Prop}{w:World}
theorem jv{e t size bytes:Nat}(E:ElT e t size bytes)(hsz:0<size)(hgd:o.guard=none)(s x:Operand)(ho:o.op= .call {callee:= .builtin .append,args:= #[s,x],argTypes:= #[t,t]})
  (A:Option Addr) (l k:List (Array Value)) (X Y:Nat->Prop) (hs:a.eval s= .slice A l.length l.length) (hl:Sl size (.slice A l.length l.length) l X w) (u:Value) (hx:a.eval x=u) (hr:Sl size u k Y w) (h1: ∀r∈k,yZ r)
  (hk:0<k.length) (hle:l.length+k.length<=200000000) (hby:bytes<=500)
  (h: ∀v' w',w'.ownsRow w.heap.size e size v' (l++k).length (yy (l++k))->Below w.heap.size w w'->wpList Tryz.prog ops Q rest (a.put o.dst v') w'):wpList Tryz.prog ops Q (o::rest) a w:=by
 obtain⟨ht,i,z,hi,hz,hs1,hb1,hzs,_⟩:=E;obtain⟨B,c,rfl,hr,hrs,_⟩:=hr;obtain⟨A',c',e1,hlr,hls,_⟩:=hl;injection e1 with ea eb ec;subst ea ec;have hb:(l.length+k.length)*bytes<=200000000*500:=Nat.mul_le_mul hle hby;cases B with
 |none=>have:=hr.2.2.2.1 rfl;have:=hr.2.1;omega
 |some ad=>
  refine wpList_append_grows w hgd s x t ho e i z size bytes ht hi hz hs1 hb1 hzs hsz A l.length l.length (yy l) hs (fun hA=> ?_) hlr.1 (fun b hb=>(hlr.2.2.2.2 b hb).2) ad k.length c (yy k) hx hr.1 (hr.2.2.2.2 ad rfl).2 ?_ (by omega) (by unfold maxLen;omega) (by omega) (fun v' w' hA hg=> ?_)
  ·have:=hlr.2.2.2.1 hA;omega
  ·intro u hu
   obtain⟨r,hr,hu⟩:=List.mem_flatMap.1 hu;exact h1 r hr u hu
  ·refine h v' w' ?_ (grown_below hg)
   rw[List.length_append,show yy (l++k)=yy l++yy k from by simp[yy]];exact hA
theorem take_patch(cur r:Array Value)(o n:Nat)(h:o+r.size<=n)(hn:n<=cur.size):(patch cur o r).toList.take n=(cur.toList.take n).take o++r.toList++(cur.toList.take n).drop (o+r.size):=by
 simp only[patch,List.append_assoc];rw[List.take_append,List.take_append];have e1:(cur.toList.take o).length=o:=by simp;omega
 have e2:r.toList.length=r.size:=by simp
 rw[e1,e2,List.take_take,List.take_take];have e3:min n o=o:=by omega
 have e4:min o n=o:=by omega
 rw[e3,e4,List.take_of_length_le (show r.toList.length<=n-o by simp;omega),List.drop_take];have e5:n-o-r.size=n-(o+r.size):=by omega
 rw[e5]
theorem flat_set{size:Nat}{l:List (Array Value)}(hs: ∀r∈l,r.size=size){i:Nat}(hi:i<l.length){r:Array Value}(hr:r.size=size):yy (l.set i r)=(yy l).take (i*size)++r.toList++(yy l).drop (i*size+r.size):=by
 induction l generalizing i with
 |nil=>simp at hi
 |cons q l ih=>
  have hq:=hs q (by simp);cases i with
  |zero=>simp[yy,hq,hr]
  |succ i=>
   have:=ih (fun x hx=>hs x (by simp[hx])) (i:=i) (by simpa using hi);simp only[yy] at this;simp only[List.set_cons_succ,yy,List.flatMap_cons,this];have e1:(i+1)*size=q.toList.length+i*size:=by simp[hq,Nat.add_mul];omega
   have e2:(i+1)*size+r.size=q.toList.length+(i*size+r.size):=by simp[hq,Nat.add_mul];omega
   rw[e2,e1,List.take_length_add_append,List.drop_length_add_append];simp[List.append_assoc]
theorem own_store{base e size n:Nat}{v:Value}{l:List (Array Value)}(hown:w.ownsRow base e size v n (yy l))(hs: ∀r∈l,r.size=size)(hn:l.length=n){i:Nat}(hi:i<n){r:Array Value}(hr:r.size=size):
  ∃g cap cur,v= .slice (some ⟨g,0,none⟩) n cap/\base<=g/\Blk w g cur e/\i*size+r.size<=cur.size/\(w.setRow g (patch cur (i*size) r)).ownsRow base e size v n (yy (l.set i r)):=by
 rcases hown.2 with⟨_,h0⟩|⟨g,cap,cur,rfl,hbg,hg,hnc,hcm,hcs,htake⟩
 ·omega
 ·have h1:(i+1)*size<=n*size:=Nat.mul_le_mul_right _ hi
  have h2:n*size<=cap*size:=Nat.mul_le_mul_right _ hnc;rw[Nat.add_mul] at h1;refine⟨g,cap,cur,rfl,hbg,hg,by omega,?_,.inr ⟨g,cap,_,rfl,hbg,setRow_heap w g cur _ e _ hg,hnc,hcm,?_,?_⟩⟩
  ·rw[xz (size:=size)]
   ·simp[hn]
   ·intro x hx
    rcases List.mem_or_eq_of_mem_set hx with h|h
    ·exact hs x h
    ·subst h;exact hr
  ·rw[yd _ _ _ (by omega)];exact hcs
  ·rw[take_patch cur r (i*size) (n*size) (by omega) (by omega),htake,flat_set hs (by omega) hr]
theorem qj{base e size n:Nat}{v:Value}{l:List (Array Value)}(hown:w.ownsRow base e size v n (yy l))(hs: ∀r∈l,r.size=size)(hn:l.length=n)(i:Nat)(hi:i<n)(r:Array Value)(hr:r.size=size)(h1:yZ r)
  (hgd:o.guard=none) (s x:Operand) (ho:o.op= .store e s x) (g cap off:Nat) (hv:v= .slice (some ⟨g,0,none⟩) n cap) (hes:a.eval s= .pointer (some ⟨g,off,none⟩)) (hoff:off=i*size) (u:Value) (hx:a.eval x=u) (hu:u.cells=r) (hsz:(sizeOf e).run Tryz.prog w= .ok size w)
  (h: ∀w',w'.ownsRow base e size v n (yy (l.set i r))->Below base w w'->w'.heap.size=w.heap.size->w.grownBy w' (some g)->wpList Tryz.prog ops Q rest (a.put o.dst undef) w'):wpList Tryz.prog ops Q (o::rest) a w:=by
 subst hoff;obtain⟨g',cap',cur,hv',hbg,hk,hfit,hnew⟩:=own_store hown hs hn hi hr;have e1:g'=g:=by
  have e2:some g=some g':=congrArg Value.ownBlock (hv.symm.trans hv');exact(Option.some.inj e2).symm
 subst e1;refine wpList_plain hgd fun K hK=> ?_;have hst:=run_storeCells_at (P:=Tryz.prog) g' (i*size) e r.toList 0 cur w hk (by simpa using hfit) h1;simp only[Nat.add_zero,Array.length_toList] at hst;have hrun:(Instr.storeAt e (.pointer (some ⟨g',i*size,none⟩)) u).run Tryz.prog w= .ok () (w.setRow g' (patch cur (i*size) r)):=by
  simp[Instr.storeAt,Instr.sureAddr,storeVar,hsz,hu,hr,hst,patch]
 unfold Oper.wp execOp;simp only[ho,hes,hx,hrun,Sem.run_bind,Sem.run_pure,Result.andThen_ok];exact hK _ _ (h _ hnew (vG (Below.refl _ _) hbg _) (by simp[World.setRow]) ⟨rfl,rfl,rfl,by simp[World.setRow],fun k _ hk=>setRow_other _ _ _ _ (fun e=>hk (by rw[e]))⟩)
theorem jh{e t size bytes:Nat}(E:ElT e t size bytes){base n:Nat}{v:Value}{l:List (Array Value)}(hown:w.ownsRow base e size v n (yy l))(hs: ∀r∈l,r.size=size)(hn:l.length=n)(i:Nat)(hi:i<=n)
  (hgd:o.guard=none) (s:Operand) (ho:o.op= .call {callee:= .builtin .clear,args:= #[s],argTypes:= #[t]}) (g cap c:Nat) (hv:v= .slice (some ⟨g,0,none⟩) n cap) (A:Option Addr) (hes:a.eval s= .slice A (n-i) c) (hA:i<n->A=some ⟨g,i*size,none⟩)
  (h: ∀w',w'.ownsRow base e size (.slice (some ⟨g,0,none⟩) i cap) i (yy (l.take i))->Below base w w'->w'.heap.size=w.heap.size->wpList Tryz.prog ops Q rest (a.put o.dst (.tuple #[])) w'):wpList Tryz.prog ops Q (o::rest) a w:=by
 obtain⟨ht,f,z,hf,hz,hs1,hb1,hzs,hone⟩:=E;rcases hown.2 with⟨h1,_⟩|⟨g',cap',cur,hv',hbg,hk,hnc,hcm,hcs,htake⟩
 ·rw[hv] at h1;cases h1
 have e1:g=g' /\cap=cap':=by
  rw[hv] at hv';have e2:some g=some g':=congrArg Value.ownBlock hv';refine⟨Option.some.inj e2,?_⟩;have e3:cap=cap':=congrArg (fun v=>match v with| .slice _ _ c=>c|_=>0) hv';exact e3
 obtain⟨rfl,rfl⟩:=e1;have h2:n*size<=cap*size:=Nat.mul_le_mul_right _ hnc;have h3:i*size<=n*size:=Nat.mul_le_mul_right _ hi;have ft:(yy l).take (i*size)=yy (l.take i):=by
  have hl: ∀(l:List (Array Value)) (i:Nat),(∀r∈l,r.size=size)->i<=l.length->(yy l).take (i*size)=yy (l.take i):=by
   intro l;induction l with
   |nil=>intro i _ hi;simp at hi;subst hi;simp[yy]
   |cons q l ih=>
    intro i hs hi;have hq:=hs q (by simp);cases i with
    |zero=>simp[yy]
    |succ i=>
     have:=ih i (fun x hx=>hs x (by simp[hx])) (by simpa using hi);simp only[yy] at this;simp only[yy,List.flatMap_cons,List.take_succ_cons];have e1:(i+1)*size=q.toList.length+i*size:=by simp[hq,Nat.add_mul];omega
     rw[e1,List.take_length_add_append,this]
  exact hl l i hs (by omega)
 have hlen:(yy (l.take i)).length=i*size:=by rw[<-ft,List.length_take,hown.1,Nat.min_eq_left h3]
 have hcm':=Lib.hid hcm;clear hcm;refine wpList_plain hgd fun K hK=> ?_;by_cases hin:i=n
 ·subst hin
  rw[Nat.sub_self] at hes;have hrun:(Builtin.clear_ #[t] o.type #[.slice A 0 c]).run Tryz.prog w= .ok (.tuple #[]) w:=by
   cases A<;>simp[Builtin.clear_,run_underlying ht]
  unfold Oper.wp execOp;simp only[ho,resolve,invoke,builtin,Sem.run_bind,Sem.run_pure,Result.andThen_ok,List.map_toArray,List.map_cons,List.map_nil,hes,hrun];exact hK _ _ (h _ ⟨hlen,.inr ⟨g,cap,cur,rfl,hbg,hk,hnc,hcm'.out,hcs,by rw[htake,<-ft,List.take_of_length_le (Nat.le_of_eq hown.1)]⟩⟩ (Below.refl _ _) rfl)
 ·have hlt:i<n:=by omega
  rw[hA hlt] at hes;have hzn:(Builtin.zeroCells z.cells (n-i)).size=(n-i)*size:=by rw[size_zeroCells,hzs]
  have hsub:i*size+(n-i)*size=n*size:=by rw[<-Nat.add_mul,Nat.add_sub_cancel' hi]
  have hz1: ∀u∈(Builtin.zeroCells z.cells (n-i)).toList,u.oneCell'=true:=by
   intro u hu;simp only[Builtin.zeroCells,Array.toList_map,List.mem_map] at hu;obtain⟨j,hj,rfl⟩:=hu;have hsz:0<z.cells.size:=by
    rcases Nat.eq_zero_or_pos z.cells.size with h0|h0
    ·simp[h0] at hj
    ·exact h0
   have hlt:j% z.cells.size<z.cells.size:=Nat.mod_lt _ hsz;rw[getElem!_pos z.cells _ hlt];exact(Array.all_eq_true_iff_forall_mem.1 hone) _ (Array.getElem_mem hlt)
  have hst:=run_storeCells_at (P:=Tryz.prog) g (i*size) e (Builtin.zeroCells z.cells (n-i)).toList 0 cur w hk (by rw[Array.length_toList,hzn,Nat.add_zero,hsub];exact Nat.le_trans h2 (Nat.le_of_eq hcs.symm)) hz1;simp only[Nat.add_zero,Array.length_toList] at hst;have hnz:n-i≠0:=by omega
  obtain⟨d,hd⟩: ∃d,n-i=d+1:=⟨n-i-1,by omega⟩;have hrun:(Builtin.clear_ #[t] o.type #[.slice (some ⟨g,i*size,none⟩) (n-i) c]).run Tryz.prog w= .ok (.tuple #[]) (w.setRow g (patch cur (i*size) (Builtin.zeroCells z.cells (n-i)))):=by
   rw[hd] at hst⊢;simp[Builtin.clear_,run_underlying ht,zeroValue,typeInfo,hf,hz,hst,patch]
  unfold Oper.wp execOp;simp only[ho,resolve,invoke,builtin,Sem.run_bind,Sem.run_pure,Result.andThen_ok,List.map_toArray,List.map_cons,List.map_nil,hes,hrun];refine hK _ _ (h _ ⟨hlen,.inr ⟨g,cap,_,rfl,hbg,setRow_heap w g cur _ e _ hk,by omega,hcm'.out,?_,?_⟩⟩ (vG (Below.refl _ _) hbg _) (by simp[World.setRow]))
  ·rw[yd _ _ _ (by omega)];exact hcs
  ·have:(cur.toList.take (n*size)).take (i*size)=cur.toList.take (i*size):=by rw[List.take_take,Nat.min_eq_left h3]
   rw[<-ft,<-htake,this];simp only[patch,List.append_assoc];have e1:(cur.toList.take (i*size)).length=i*size:=by simp;omega
   exact List.take_left' e1
end
end Go.Proofs.YtaccidkgnkmagaaGreatDoor.Top
