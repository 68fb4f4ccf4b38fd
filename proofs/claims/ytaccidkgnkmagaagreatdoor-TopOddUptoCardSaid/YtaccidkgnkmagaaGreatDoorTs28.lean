/-
  Walks and laws of the whole machine: Open, Laid. Conditions: each theorem names its own.
-/
import Derived.Test.YtaccidkgnkmagaaGreatDoorCards
import Derived.Test.YtaccidkgnkmagaaGreatDoorTie
import Derived.Test.YtaccidkgnkmagaaGreatDoorTs27
set_option maxRecDepth 16000
set_option maxHeartbeats 12800000
set_option linter.unusedVariables false
set_option linter.unusedSimpArgs false
namespace Go.Proofs.YtaccidkgnkmagaaGreatDoor.Top
section
open Go.ChangeShapes Go.WideShapes Go.ChangeAt Go.RowKit Go.Joins Go.Deep
theorem flat_back{size:Nat}{l:List (Array Value)}(hs: ∀r∈l,r.size=size)(h0:0<size){j:Nat}{u:Value}(h:(yy l)[j]? =some u): ∃r,l[j/size]? =some r/\r[j% size]? =some u:=by
 have hj:j<(yy l).length:=(List.getElem?_eq_some_iff.1 h).1;rw[xz hs] at hj;have hd:j/size<l.length:=Nat.div_lt_of_lt_mul (by rw[Nat.mul_comm];exact hj);obtain⟨r,hr⟩: ∃r,l[j/size]? =some r:=⟨_,List.getElem?_eq_getElem hd⟩;have hm:j% size<r.size:=by rw[hs r (List.mem_of_getElem? hr)];exact Nat.mod_lt _ h0
 have hv:r[j% size]? =some (r[j% size]'hm):=Array.getElem?_eq_getElem hm;have:=flat_get hs hr hv;rw[Nat.div_add_mod' j size,h] at this;exact⟨r,hr,by rw[hv];exact this.symm⟩
theorem choose_to{α:Type}{p:Nat->α->Prop}[Nonempty α]{m:Nat}(h: ∀i,i<m-> ∃g,p i g): ∃g:Nat->α,∀i,i<m->p i (g i):=by
 refine⟨fun i=>if hi:i<m then Classical.choose (h i hi) else Classical.choice inferInstance,fun i hi=> ?_⟩;simp only[dif_pos hi];exact Classical.choose_spec (h i hi)
theorem bulk_mem{H:Type}{d:DataW H}: ∀{l:List (DataW H)},d∈l->Rows.uptoBulk d<=Rows.uptoBulkAll l
 |x::l,h=>by
  simp only[Rows.uptoBulkAll];rcases List.mem_cons.1 h with rfl|h
  ·omega
  ·have:=bulk_mem h
   omega
theorem choose_rows{α β:Type}{P:α->β->Prop}: ∀{L:List α},(∀r∈L,∃l,P r l)-> ∃wl:List β,L.length=wl.length/\(∀(i:Nat) (r:α) (l:β),L[i]? =some r->wl[i]? =some l->P r l)/\ ∀l∈wl,∃r∈L,P r l
 |[],_=>⟨[],rfl,(fun _ _ _ h=>by cases h),fun _ h=>by cases h⟩
 |x::L,h=>by
  obtain⟨l,hl⟩:=h x List.mem_cons_self;obtain⟨wl,h1,h2,h3⟩:=choose_rows (L:=L) (fun r hr=>h r (List.mem_cons_of_mem _ hr));refine⟨l::wl,by simp[h1],fun i r l' hr hl'=> ?_,fun l' hl'=> ?_⟩
  ·cases i with
   |zero=>
    injection hr with hr;injection hl' with hl';subst hr hl';exact hl
   |succ i=>exact h2 i r l' hr hl'
  ·rcases List.mem_cons.1 hl' with rfl|hl'
   ·exact⟨x,List.mem_cons_self,hl⟩
   ·obtain⟨r,hr,hp⟩:=h3 l' hl'
    exact⟨r,List.mem_cons_of_mem _ hr,hp⟩
section
variable{H:Type}{enc:TypeId×Value->H}{w:World}{held:Bool}
theorem gd{T E:TypeId}{size:Nat}(hT:Tryz.prog.underlying T=some (.slice E))(hc:Tryz.prog.cellsOf E=size)(h0:0<size){R:Array Value->Nat->Prop}(hmono: ∀{r:Array Value} {B B':Nat},B<=B'->R r B->R r B')
  (hrow: ∀{n:Nat} {cs:List Value} {x:DataW H×List MemPlace},DataW.trod enc Tryz.prog w 0 (fun _=>true) held n E cs=some x->cs.length=size/\R cs.toArray (Rows.uptoBulk x.1))
  {fuel:Nat} {cs:List Value} {x:DataW H×List MemPlace} (h:DataW.trod enc Tryz.prog w 0 (fun _=>true) held fuel T cs=some x):
  ∃(A:Option Addr) (l:List (Array Value)) (c:Nat),cs=[.slice A l.length c]/\Sl size (.slice A l.length c) l (fun _=>False) w/\(∀r∈l,R r (Rows.uptoBulk x.1))/\l.length<=Rows.uptoBulk x.1:=by
 rcases open_slice hT h with⟨rfl,rfl⟩|⟨a,len,cap,m,n,D,Pl,rfl,_,hl,hm,hmm,rfl,hi⟩
 ·exact⟨none,[],0,rfl,qz _ _ _,(fun _ h=>by cases h),Nat.zero_le _⟩
 ·simp at hmm
  rw[hc] at hi;have each: ∀i,i<len-> ∃r:Array Value,r.size=size/\R r (Rows.uptoBulk (D i))/\ ∀(j:Nat) (u:Value),r[j]? =some u->w.cell? (a.add (i*size+j))=some u:=by
   intro i hil;obtain⟨cs',hcs,ht⟩:=hi i (by omega);obtain⟨hlen,hR⟩:=hrow ht;obtain⟨_,hcl,hat⟩:=World.cells?_some hcs;refine⟨cs'.toArray,by simpa using hlen,hR,fun j u hj=> ?_⟩;have hj':cs'[j]? =some u:=by simpa using hj
   have hjl:j<size:=by rw[<-hlen];exact(List.getElem?_eq_some_iff.1 hj').1
   have:=hat j hjl;rw[Go.Deep.add_add,hj'] at this;exact this
  obtain⟨g,hg⟩:=choose_to (α:=Array Value) each;have hll:((List.range len).map g).length=len:=by simp
  have hget: ∀(i:Nat) (r:Array Value),((List.range len).map g)[i]? =some r->i<len/\r=g i:=by
   intro i r hr;have hil:i<len:=by have:=(List.getElem?_eq_some_iff.1 hr).1;rwa [hll] at this
   rw[List.getElem?_map,List.getElem?_range hil] at hr;injection hr with hr;exact⟨hil,hr.symm⟩
  have hsz: ∀r∈(List.range len).map g,r.size=size:=by
   intro r hr;obtain⟨i,hir⟩:=List.getElem?_of_mem hr;obtain⟨hil,rfl⟩:=hget i r hir;exact(hg i hil).1
  refine⟨some a,(List.range len).map g,cap,by rw[hll],⟨some a,cap,rfl,⟨xz hsz,by rw[hll];exact hl,hm,(fun e=>by cases e),fun b hb=> ?_⟩,hsz,fun _ _ _ h=>h.elim⟩,fun r hr=> ?_,?_⟩
  ·injection hb with hb
   subst hb;refine⟨fun hn=> ?_,fun j u hu=> ?_⟩
   ·rw[hll] at hn
    obtain⟨h1,_,h3⟩:=hg 0 hn;have hc0:=h3 0 _ (Array.getElem?_eq_getElem (by rw[h1];exact h0));have:=World.block_lt_of_cell? _ _ hc0
    rwa [ZQ] at this
   ·obtain⟨r,hr,hu'⟩:=flat_back hsz h0 hu
    obtain⟨hil,rfl⟩:=hget _ _ hr;have:=(hg _ hil).2.2 _ _ hu'
    rwa [Nat.div_add_mod' j size] at this
  ·obtain⟨i,hir⟩:=List.getElem?_of_mem hr
   obtain⟨hil,rfl⟩:=hget i r hir;refine hmono ?_ (hg i hil).2.1;have:=bulk_mem (d:=D i) (l:=(List.range len).map D) (List.mem_map.2 ⟨i,List.mem_range.2 hil,rfl⟩);show _<=Rows.uptoBulk (DataW.slice _ _);simp only[Rows.uptoBulk];omega
  ·rw[hll]
   have:=bulk_slice ((List.range len).map D) ((List.range (m-len)).map fun j=>D (len+j));simp only[List.length_map,List.length_range] at this;show _<=Rows.uptoBulk (DataW.slice _ _);omega
theorem vU:Tryz.prog.cellsOf 3=1:=by kernel_rfl
theorem jy{b:Nat}{sp:Nat->Bool}{n:Nat}{cs:List Value}{x:DataW H×List MemPlace}(h:DataW.trod enc Tryz.prog w b sp held n 3 cs=some x): ∃a:Int,cs=[.int .i64 a]/\(-9223372036854775808<=a/\a<=9223372036854775807):=by
 obtain⟨a,e,_,hw⟩:=DataW.trod_int Tryz.underlying3 h;simp[Lit.wf,IntKind.min,IntKind.max,IntKind.signed,IntKind.bits] at hw;exact⟨a,e,by omega⟩
theorem drop_get{cs:List Value}{i:Nat}{v:Value}(h:(cs.drop i).take 1=[v]):cs[i]? =some v:=by
 have:=congrArg (fun l:List Value=>l[0]?) h;simpa[List.getElem?_take,List.getElem?_drop] using this
theorem row_ints{cs:List Value}{n:Nat}(hl:cs.length=n)(h: ∀i,i<n-> ∃a:Int,(cs.drop i).take 1=[.int .i64 a]/\(-9223372036854775808<=a/\a<=9223372036854775807)):Ty (List.replicate n Kd.i64) cs.toArray:=by
 refine Ty.of (by simpa using hl) (fun j k v hk hv=> ?_);have hj:j<n:=by have:=(List.getElem?_eq_some_iff.1 hk).1;simpa using this
 obtain⟨a,e,h1,h2⟩:=h j hj;have e2:=drop_get e;have hk':k=Kd.i64:=List.eq_of_mem_replicate (List.mem_of_getElem? hk);subst hk';have hv':cs[j]? =some v:=by simpa using hv
 rw[e2] at hv';injection hv' with hv';subst hv';exact⟨a,rfl,h1,h2⟩
theorem win_row{n:Nat}{cs:List Value}{x:DataW H×List MemPlace}(h:DataW.trod enc Tryz.prog w 0 (fun _=>true) held n 61 cs=some x):cs.length=3/\Ty kWin cs.toArray:=by
 obtain⟨xs,m,_,rfl,hl,hxl,hf⟩:=DataW.trod_struct Tryz.underlying61 h;rw[show Tryz.prog.cellsOf 61=3 by kernel_rfl] at hl
 match xs,hxl with
 |[x0,x1,x2],_=>
  refine⟨hl,row_ints hl (fun i hi=> ?_)⟩
  match i,hi with
  |0,_=>exact jy (by simpa[vU] using hf 0 _ rfl)
  |1,_=>exact jy (by simpa[vU] using hf 1 _ rfl)
  |2,_=>exact jy (by simpa[vU] using hf 2 _ rfl)
theorem chan_row{n:Nat}{cs:List Value}{x:DataW H×List MemPlace}(h:DataW.trod enc Tryz.prog w 0 (fun _=>true) held n 87 cs=some x):cs.length=5/\Ty gx cs.toArray:=by
 obtain⟨xs,m,_,rfl,hl,hxl,hf⟩:=DataW.trod_struct Tryz.underlying87 h;rw[show Tryz.prog.cellsOf 87=5 by kernel_rfl] at hl
 match xs,hxl with
 |[x0,x1,x2,x3,x4],_=>
  refine⟨hl,row_ints hl (fun i hi=> ?_)⟩
  match i,hi with
  |0,_=>exact jy (by simpa[vU] using hf 0 _ rfl)
  |1,_=>exact jy (by simpa[vU] using hf 1 _ rfl)
  |2,_=>exact jy (by simpa[vU] using hf 2 _ rfl)
  |3,_=>exact jy (by simpa[vU] using hf 3 _ rfl)
  |4,_=>exact jy (by simpa[vU] using hf 4 _ rfl)
theorem part_row{n:Nat}{cs:List Value}{x:DataW H×List MemPlace}(h:DataW.trod enc Tryz.prog w 0 (fun _=>true) held n 76 cs=some x):cs.length=4/\Ty kPart cs.toArray:=by
 obtain⟨xs,m,_,rfl,hl,hxl,hf⟩:=DataW.trod_struct Tryz.underlying76 h;rw[show Tryz.prog.cellsOf 76=4 by kernel_rfl] at hl
 match cs,hl,xs,hxl with
 |[c0,c1,c2,c3],hl,[x0,x1],_=>
  have h1:=hf 1 _ rfl;simp only[List.getElem_toArray,List.getElem_cons_succ,List.getElem_cons_zero] at h1;rw[show Tryz.prog.cellsOf 74=3 by kernel_rfl] at h1;simp only[List.drop,List.take,List.getElem?_cons_succ,List.getElem?_cons_zero] at h1;obtain⟨ys,m2,_,_,_,hyl,hy⟩:=DataW.trod_array Tryz.underlying74 h1;rw[vU] at hy;refine⟨rfl,row_ints (n:=4) rfl (fun i hi=> ?_)⟩
  match ys,hyl with
  |[y0,y1,y2],_=>
   match i,hi with
   |0,_=>exact jy (by simpa[vU] using hf 0 _ rfl)
   |1,_=>exact jy (by simpa using hy 0 (by omega))
   |2,_=>exact jy (by simpa using hy 1 (by omega))
   |3,_=>exact jy (by simpa using hy 2 (by omega))
theorem str_row{n:Nat}{cs:List Value}{x:DataW H×List MemPlace}(h:DataW.trod enc Tryz.prog w 0 (fun _=>true) held n 9 cs=some x):cs.length=1/\ ∃t:ByteArray,cs.toArray= #[.string t]:=by
 obtain⟨s,e,_,_⟩:=DataW.trod_string Tryz.underlying9 h;subst e;exact⟨rfl,s,rfl⟩
def RowR(w:World)(size:Nat)(Q:Array Value->Prop)(r:Array Value)(B:Nat):Prop:= ∃l:List (Array Value),((∃(A:Option Addr) (c:Nat),r= #[.slice A l.length c]/\Sl size (.slice A l.length c) l (fun _=>False) w)/\ ∀q∈l,Q q)/\l.length<=B
theorem rowR_mono{size:Nat}{Q:Array Value->Prop}{r:Array Value}{B B':Nat}(h:B<=B'):RowR w size Q r B->RowR w size Q r B':=fun⟨l,h1,h2⟩=>⟨l,h1,Nat.le_trans h2 h⟩
theorem wins_row{n:Nat}{cs:List Value}{x:DataW H×List MemPlace}(h:DataW.trod enc Tryz.prog w 0 (fun _=>true) held n 59 cs=some x):cs.length=1/\RowR w 3 (Ty kWin) cs.toArray (Rows.uptoBulk x.1):=by
 obtain⟨A,l,c,rfl,h1,h2,h3⟩:=gd (R:=fun r _=>Ty kWin r) Tryz.underlying59 (show Tryz.prog.cellsOf 61=3 by kernel_rfl) (by decide) (fun _ h=>h) win_row h;exact⟨rfl,l,⟨⟨A,c,rfl,h1⟩,h2⟩,h3⟩
theorem strs_row{n:Nat}{cs:List Value}{x:DataW H×List MemPlace}(h:DataW.trod enc Tryz.prog w 0 (fun _=>true) held n 51 cs=some x):cs.length=1/\RowR w 1 (fun r=> ∃t:ByteArray,r= #[.string t]) cs.toArray (Rows.uptoBulk x.1):=by
 obtain⟨A,l,c,rfl,h1,h2,h3⟩:=gd (R:=fun r _=> ∃t:ByteArray,r= #[.string t]) Tryz.underlying51 (show Tryz.prog.cellsOf 9=1 by kernel_rfl) (by decide) (fun _ h=>h) str_row h;exact⟨rfl,l,⟨⟨A,c,rfl,h1⟩,h2⟩,h3⟩
structure AskedOk (w:World) (p:Pn) (B:Nat):Prop where
 G:PnG p (fun _=>False) w
 T:ZJ p.lP p.wl p.lC
 img: ∀l∈p.il,∀r∈l,∃t:ByteArray,r= #[.string t]
 iml: ∀l∈p.il,l.length<=10000000
 ile:p.il.length<=10000000
 f0: -9223372036854775808<=p.fr
 f1:p.fr<=9223372036854775807
theorem open_asked{T:TypeId}{fs:Array Field}(hT:Tryz.prog.underlying T=some (.struct fs))(hfs:fs.toList.map (fun f=>(f.type,f.offset))=[(26,0),(27,4),(3,5),(3,6)])(hcT:Tryz.prog.cellsOf T=7){r:Reach}{b0:Nat}{v:Value}{d:DataW H}{pl:List MemPlace}
  (hv:Value.okWide Tryz.prog w r b0 T v) (h:DataW.Trod enc Tryz.prog w 0 (fun _=>true) held T v d pl) (hB:Rows.uptoBulk d<=1048576):
  ∃(p:Pn) (nn part:Int),v= .agg #[p.vP,.int .i64 p.fr,p.vW,p.vC,p.vI,.int .i64 nn,.int .i64 part]/\AskedOk w p (Rows.uptoBulk d):=by
 obtain⟨cs,rfl,hsz⟩:=okWide_struct hT hv;rw[hcT] at hsz;obtain⟨fuel,hf0⟩:=h;obtain⟨xs,m,_,hx,hl,hxl,hf⟩:=DataW.trod_struct hT hf0;obtain⟨fl⟩:=fs;obtain⟨cl⟩:=cs;have hfl:fl.length=4:=by have:=congrArg List.length hfs;simpa using this
 match fl,hfl,hfs with
 |[g0,g1,g2,g3],_,hfs=>
 simp only[List.map_cons,List.map_nil,List.cons.injEq,Prod.mk.injEq,and_true] at hfs;obtain⟨⟨e0,o0⟩,⟨e1,o1⟩,⟨e2,o2⟩,e3,o3⟩:=hfs
 match cl,hsz,xs,hxl with
 |[c0,c1,c2,c3,c4,c5,c6],_,[x0,x1,x2,x3],_=>
 have h0:=hf 0 g0 rfl;have h1:=hf 1 g1 rfl;have h2:=hf 2 g2 rfl;have h3:=hf 3 g3 rfl;rw[e0,o0,show Tryz.prog.cellsOf 26=4 by kernel_rfl] at h0;rw[e1,o1,show Tryz.prog.cellsOf 27=1 by kernel_rfl] at h1;rw[e2,o2,vU] at h2;rw[e3,o3,vU] at h3;simp only[Value.cells,List.drop,List.take,List.getElem?_cons_succ,List.getElem?_cons_zero] at h0 h1 h2 h3;obtain⟨nn,en,_⟩:=jy h2;obtain⟨pt,ep,_⟩:=jy h3;injection en with en;injection ep with ep;subst en ep;obtain⟨ys,m2,_,hy,hyl0,hyl,hg⟩:=DataW.trod_struct Tryz.underlying26 h0;simp only[Prod.mk.injEq] at hx;obtain⟨rfl,_⟩:=hx
 match ys,hyl with
 |[y0,y1,y2,y3],_=>
 have k0:=hg 0 _ rfl;have k1:=hg 1 _ rfl;have k2:=hg 2 _ rfl;have k3:=hg 3 _ rfl;simp only[List.getElem_toArray,List.getElem_cons_succ,List.getElem_cons_zero] at k0 k1 k2 k3;rw[show Tryz.prog.cellsOf 22=1 by kernel_rfl] at k0;rw[vU] at k1;rw[show Tryz.prog.cellsOf 23=1 by kernel_rfl] at k2;rw[show Tryz.prog.cellsOf 24=1 by kernel_rfl] at k3;simp only[List.drop,List.take,List.getElem?_cons_succ,List.getElem?_cons_zero] at k0 k1 k2 k3;have hx0:x0.1= .agg [y0.1,y1.1,y2.1,y3.1]:=by rw[hy];rfl
 have hb:Rows.uptoBulk y0.1<=1048576/\Rows.uptoBulk y2.1<=1048576/\Rows.uptoBulk y3.1<=1048576/\Rows.uptoBulk x1.1<=1048576:=by
  simp only[List.map_cons,List.map_nil,Rows.uptoBulk,Rows.uptoBulkAll,hx0] at hB;omega
 obtain⟨fr,ef,hf1,hf2⟩:=jy k1;injection ef with ef;subst ef;obtain⟨AP,lP,cP,eP,sP,rP,nP⟩:=gd (R:=fun r _=>Ty kPart r) Tryz.underlying22 (show Tryz.prog.cellsOf 76=4 by kernel_rfl) (by decide) (fun _ h=>h) part_row k0;obtain⟨AW,lW,cW,eW,sW,rW,nW⟩:=gd (R:=RowR w 3 (Ty kWin)) Tryz.underlying23 (show Tryz.prog.cellsOf 59=1 by kernel_rfl) (by decide) rowR_mono wins_row k2;obtain⟨AC,lC,cC,eC,sC,rC,nC⟩:=gd (R:=fun r _=>Ty gx r) Tryz.underlying24 (show Tryz.prog.cellsOf 87=5 by kernel_rfl) (by decide) (fun _ h=>h) chan_row k3;obtain⟨AI,lI,cI,eI,sI,rI,nI⟩:=gd (R:=RowR w 1 (fun r=> ∃t:ByteArray,r= #[.string t])) Tryz.underlying27 (show Tryz.prog.cellsOf 51=1 by kernel_rfl) (by decide) rowR_mono strs_row h1;injection eP with eP;injection eW with eW;injection eC with eC;injection eI with eI;subst eP eW eC eI;obtain⟨wl,w1,w2,w3⟩:=choose_rows rW;obtain⟨il,i1,i2,i3⟩:=choose_rows rI;refine⟨⟨_,lP,fr,_,lW,wl,_,lC,_,lI,il⟩,nn,pt,rfl,⟨⟨sP,sW,⟨w1,fun i r l hr hl=>(w2 i r l hr hl).1.1⟩,sC⟩,sI,i1,fun i r l hr hl=>(i2 i r l hr hl).1.1⟩,⟨rP,fun l hl=> ?_,rC,?_,?_,?_,fun l hl=> ?_⟩,fun l hl=> ?_,fun l hl=> ?_,?_,hf1,hf2⟩
 ·obtain⟨r,_,hp⟩:=w3 l hl
  exact hp.1.2
 ·show lP.length<=_
  omega
 ·show wl.length<=_
  omega
 ·show lC.length<=_
  omega
 ·obtain⟨r,_,hp⟩:=w3 l hl
  have:=hp.2;omega
 ·obtain⟨r,_,hp⟩:=i3 l hl
  exact hp.1.2
 ·obtain⟨r,_,hp⟩:=i3 l hl
  have:=hp.2;omega
 ·show il.length<=_
  omega
end
end
section
open Go.ChangeShapes Go.WideShapes Go.ChangeAt Go.RowKit Go.Joins Go.Proofs.YtaccidkgnkmagaaGreatDoor.Isa
theorem cellsInt:Tryz.prog.cellsOf 3=1:=by kernel_rfl
theorem cellsUses:Tryz.prog.cellsOf 288=25:=by kernel_rfl
theorem gUses:Tryz.prog.globalNamed "transom/isa.uses" =some 0:=by kernel_rfl
theorem gUsesType:(Tryz.prog.globals[0]?).map (·.type)=some 288:=by kernel_rfl
theorem tab_of{W:World}(h:Lib.TabIs Tryz.prog W "transom/isa.uses" .i64 usesL):Tab W:=
 ⟨World.block_lt_of_cell? W ⟨0,0,none⟩ (h.cell gUses 0 (by decide)),fun n hn=>h.cell gUses n (by simpa[usesL] using hn)⟩
noncomputable def gh(os:Os):World:=
 {World.holding Tryz.prog os ⟨#[],#[],[]⟩ with heap:=(World.holding Tryz.prog os ⟨#[],#[],[]⟩).heap.modify 0 fun
   | .cells _ t frozen=> .cells (usesL.map fun z=>Value.int .i64 z).toArray t frozen
   |o=>o}
end
end Go.Proofs.YtaccidkgnkmagaaGreatDoor.Top
