/-
  Walks and laws of the whole machine: Begin, Shown, Law, Bulk. Conditions: each theorem names its own.
-/
import Derived.Test.YtaccidkgnkmagaaGreatDoorTs26
import Derived.ProofKit
import Derived.OpenShut
import Derived.Deep.DeepHandedRow
import Derived.Lib.SmallJoins
import Derived.Carry
set_option maxRecDepth 16000
set_option maxHeartbeats 12800000
set_option linter.unusedVariables false
set_option linter.unusedSimpArgs false
namespace Go.Proofs.YtaccidkgnkmagaaGreatDoor.Top
section
open Go.RowKit Go.Proofs.YtaccidkgnkmagaaGreatDoor.Isa
theorem St.appn{e size:Nat}{M X0 X:Nat->Prop}{w0 W W':World}{bs:List (Nat×Array Value×TypeId)}{G:(Nat->Prop)->World->Prop}(k:St M X0 w0 bs G X W){base m:Nat}{v':Value}{ob:Option Nat}{l':List (Array Value)}(hown:W'.ownsRow base e size v' m (yy l'))(hlen:l'.length=m)(hs: ∀r∈l',r.size=size)(hm:0<m)(hgr:W.grownBy W' ob)(hob:v'.ownBlock=ob\/v'.ownBlock=some W.heap.size)
  (hobX: ∀g,ob=some g->X g/\(g<w0.heap.size->M g)/\ ∀x∈bs,x.1≠g): ∃g cap cur X',v'= .slice (some ⟨g,0,none⟩) m cap/\Rw size m cap cur l' /\St M X0 w0 ((g,cur,e)::bs) G X' W' /\ ∀b,X b->X' b:=by
 obtain⟨g,cap,cur,rfl,hbg,hk,hnc,hcm,hcs,ht⟩:=xI hown hm;obtain⟨g1,g2,g3,g4,g5⟩:=hgr;have ho:Only (fun b=>ob=some b) W W':=⟨g1,g2,g3,g4,fun b hb hne=>g5 b hb (fun e=>hne e.symm)⟩;have hw0:=k.only.size;have hrw:Rw size m cap cur l':=⟨hnc,hcm,hcs,ht,hlen,hs⟩;have key: ∀X',St M X0 w0 bs G X' W'->X' g->(g<w0.heap.size->M g)->(∀x∈bs,x.1≠g)->St M X0 w0 ((g,cur,e)::bs) G X' W':=by
  intro X' k' hXg hM hne;refine⟨k'.only,k'.sup,k'.lt,k'.own,?_,?_,k'.fact,k'.per⟩
  ·intro i b C T h
   cases i with
   |zero=>
    simp only[List.getElem?_cons_zero] at h;injection h with h;injection h with h1 h2;injection h2 with h2 h3;subst h1 h2 h3;exact⟨hXg,hM,hk⟩
   |succ i=>
    simp only[List.getElem?_cons_succ] at h;exact k'.box h
  ·intro i j x y h1 h2 hn
   cases i with
   |zero=>
    cases j with
    |zero=>exact absurd rfl hn
    |succ j=>
     simp only[List.getElem?_cons_zero,List.getElem?_cons_succ] at h1 h2;injection h1 with h1;subst h1;exact fun e=>hne y (List.mem_of_getElem? h2) e.symm
   |succ i=>
    cases j with
    |zero=>
     simp only[List.getElem?_cons_zero,List.getElem?_cons_succ] at h1 h2;injection h2 with h2;subst h2;exact hne x (List.mem_of_getElem? h1)
    |succ j=>
     simp only[List.getElem?_cons_succ] at h1 h2;exact k'.nodup h1 h2 (by omega)
 have hob': ∀x∈bs,¬(ob=some x.1):=fun x hx e=>(hobX _ e).2.2 x hx rfl;rcases hob with e9|e9
 ·have e':ob=some g:=e9.symm
  obtain⟨q1,q2,q3⟩:=hobX g e';exact⟨g,cap,cur,X,rfl,hrw,key X (k.scribble ho (fun b hb _=>(hobX b hb).1) (fun b hb=>(hobX b hb).2.1) hob') q1 q2 q3,fun _ h=>h⟩
 ·have e':g=W.heap.size:=Option.some.inj e9
  subst e';refine⟨W.heap.size,cap,cur,fun b=>X b\/b=W.heap.size,rfl,hrw,?_,fun _ h=> .inl h⟩;have k1:=k.scribble ho (fun b hb _=>(hobX b hb).1) (fun b hb=>(hobX b hb).2.1) hob';refine key _ (k1.fence hw0 hk.lt ?_) (.inr rfl) (fun h=>by omega) (fun x hx e=> ?_)
  ·exact k.per.step (k.per.grow _ (Nat.le_refl _) k.fact) (ho.mono (fun b _ hb=> .inl (hobX b hb).1))
  ·obtain⟨i,hi⟩:=List.getElem?_of_mem hx
   have:=(k.blk hi).lt;omega
theorem own_of_rwn{e size:Nat}{base g cap m:Nat}{cur:Array Value}{l:List (Array Value)}{W:World}(h:Rw size m cap cur l)(hk:Blk W g cur e)(hb:base<=g):W.ownsRow base e size (.slice (some ⟨g,0,none⟩) m cap) l.length (yy l):=by
 have e:=h.len;subst e;exact⟨xz h.sz,.inr ⟨g,cap,cur,rfl,hb,hk,h.nc,h.cm,h.cs,h.take⟩⟩
def jd:Array Value:= #[.slice none 0 0]
theorem made_stamps(n:Nat)(hn:n<=4):(madeCells jd (n*1)).toList=yy (List.replicate n jd):=by
 have h: ∀k:Fin 5,(madeCells jd (k.val*1)).toList=yy (List.replicate k.val jd):=fun k=>by
  match k with
  |⟨0,_⟩=>exact(show(madeCells jd (0*1)).toList=yy (List.replicate 0 jd) by kernel_rfl)
  |⟨1,_⟩=>exact(show(madeCells jd (1*1)).toList=yy (List.replicate 1 jd) by kernel_rfl)
  |⟨2,_⟩=>exact(show(madeCells jd (2*1)).toList=yy (List.replicate 2 jd) by kernel_rfl)
  |⟨3,_⟩=>exact(show(madeCells jd (3*1)).toList=yy (List.replicate 3 jd) by kernel_rfl)
  |⟨4,_⟩=>exact(show(madeCells jd (4*1)).toList=yy (List.replicate 4 jd) by kernel_rfl)
 exact h ⟨n,by omega⟩
section
variable{w:World}{ops:Array Oper}{rest:List Oper}{o:Oper}{a:Act}{Q:Exit->Act->World->Prop}
theorem wpList_mkstamps(hgd:o.guard=none){s1 s2:Operand}(ho:o.op= .makeSlice 34 s1 s2){n:Nat}(hn:n<=4)(hs1:ev a s1=some (.int .i64 n))(hs2:ev a s2=some (.int .i64 n))
  (h: ∀A w',w'.ownsRow w.heap.size 143 1 (.slice A n n) (List.replicate n jd).length (yy (List.replicate n jd))->Below w.heap.size w w'->wpList Tryz.prog ops Q rest (a.put o.dst (.slice A n n)) w'):wpList Tryz.prog ops Q (o::rest) a w:=by
 obtain⟨ht,f,z,hf,hz,hsE,hb1,hzs,hone⟩:=elStamps;have hzz:z.cells=jd:=by
  have e:=Tryz.zeroValue143 w;simp[zeroValue,typeInfo,hf,hz] at e;rw[e];rfl
 refine wpList_plain hgd fun K hK=> ?_;obtain⟨w',hrun,hown,hgr⟩:=run_makeSlice_full (P:=Tryz.prog) (w:=w) w.heap.size 34 143 f z 1 ht hf hz hsE .i64 .i64 n (by omega) (by rw[hb1];omega) (by unfold maxLen;omega) (Nat.le_refl _);rw[hzz,made_stamps n hn] at hown;unfold Oper.wp execOp;simp only[ho,xO hs1,xO hs2,hrun,Sem.run_bind,Sem.run_pure,Result.andThen_ok];exact hK _ _ (h _ w' (by simpa using hown) ((Below.refl w.heap.size w).grown hgr (Nat.le_refl _) (fun k hk=>by cases hk)))
end
theorem imgs_any(i:Nat)(vI:Value)(lI:List (Array Value))(il:List (List (Array Value)))(bi:Nat)(X0:Nat->Prop)(w:World)(hX: ∀b,X0 b->b<w.heap.size)(hbi:Blk w bi #[vI] 27)(hsl:Sl 1 vI lI X0 w)(hG:ImgG lI il X0 w)(hi:i<=1000):
  Calls Tryz.prog 14 (#[.int .i64 i]++ #[.pointer (some ⟨bi,0,none⟩)]) w fun e w'=> ∃v,e= .returned v/\Sl 1 v (il.getD i []) X0 w' /\Below w.heap.size w w':=by
 obtain⟨A1,c1,e1,hlc1,hcm1⟩:=hsl.len;rw[hG.1] at e1 hlc1;subst e1;have k:Hid (St (fun _=>False) X0 w [] (fun X W=>Sl 1 (.slice A1 il.length c1) lI X W/\ImgG lI il X W) X0 w):=St.begin hX ⟨hsl,hG⟩ ((zb _ _ _).and (per_img _ _));have q1:w.cell? ⟨bi,0,none⟩=some (.slice A1 il.length c1):=hbi.rules.1 0;have hbl:=hbi.lt;by_cases hlt:i<il.length
 ·obtain⟨l,hl⟩: ∃l,il[i]? =some l:=⟨_,List.getElem?_eq_getElem hlt⟩
  obtain⟨r,hr⟩: ∃r,lI[i]? =some r:=⟨_,List.getElem?_eq_getElem (by rw[hG.1];exact hlt)⟩;obtain⟨A2,c2,rfl,hs2⟩:=hG.2 i r l hr hl;obtain⟨b1,o1,eA,_⟩:=hsl.row hr (by decide);subst eA;have HR:=Lib.hid hr;have HD:=zj k.out.fact.1;have HS2:=Lib.hid hs2;have hil:il.getD i []=l:=by rw[List.getD_eq_getElem?_getD,hl];rfl
  rw[hil];have hki:(i:Int)<il.length:=by omega
  have hkc:(i:Int)<c1:=by omega
  clear hsl hG hbi hs2 hl hil hr;go_enter Tryz.func14,Tryz.ntmps14;go_wp2_with((with_reducible refine zz ?_);refine qx rfl rfl HD.out HR.out rfl ⟨_,rfl,rfl⟩ (Tryz.isAgg51 _) ?_);exact bodyPost_ret (zh rfl rfl) rfl ⟨_,rfl,HS2.out,k.out.end⟩
 ·have hil:il.getD i []=[]:=by rw[List.getD_eq_getElem?_getD,List.getElem?_eq_none (by omega)];rfl
  rw[hil];have hki:(il.length:Int)<=i:=by omega
  clear hsl hG hbi hil;go_enter Tryz.func14,Tryz.ntmps14;go_wp2_with fail;exact bodyPost_ret (zh rfl rfl) rfl ⟨_,rfl,qz _ _ _,k.out.end⟩
def LG(p:Pn)(S:List Se)(vA:Value)(A:List (Array Value))(X:Nat->Prop)(W:World):Prop:=
 PnG p X W/\(∀z,z∈S->KSl z.x X W)/\Sl 1 vA A X W/\ ∀r,r∈A->ArrOk 0 r X W
theorem per_lg(p:Pn)(S:List Se)(vA:Value)(A:List (Array Value)):Per (LG p S vA A):=
 (per_pn p).and ((Per.all fun z:Se=>Per.imp (zO z.x)).and ((zb _ _ _).and (Per.all fun r=>Per.imp (per_arr 0 r))))
structure SeB (p:Pn) (i:Nat) (z:Se):Prop where
 ok:SeOk p 0 i z
 now:z.x.now=0
 st:z.st=1\/z.st=3
 idle: ∀r,p.lP[i]? =some r->zQ r 1=1->p.il.getD i []=[]->z.x.gone=1/\z.st=1
def BegR(p:Pn)(X:Nat->Prop)(w:World)(e:Ending)(w':World):Prop:=
 (yv p.fr p.lP p.wl p.lC≠0/\e= .returned (.tuple #[.agg zSy,.int .i64 (yv p.fr p.lP p.wl p.lC)])/\Below w.heap.size w w')\/
 (yv p.fr p.lP p.wl p.lC=0/\ ∃y,e= .returned (.tuple #[.agg (SyC p y),.int .i64 0])/\SyG p 0 y X w' /\SyOk p 0 y/\(y.now=0/\y.sched=0/\y.next=0/\ ∀(i:Nat) (z:Se),y.S[i]? =some z->SeB p i z)/\Below w.heap.size w w')
theorem arr_zero(n m:Nat)(X:Nat->Prop)(W:World): ∀r,r∈List.replicate n jd->ArrOk m r X W:=fun r hr=>by
 rw[List.eq_of_mem_replicate hr];exact⟨.slice none 0 0,[],⟨rfl,Nat.zero_le _,fun _ h=>by cases h⟩,qz _ _ _⟩
theorem app_get{α:Type}{l:List α}{x:α}{i:Nat}{y:α}(h:(l++ [x])[i]? =some y):l[i]? =some y\/(i=l.length/\y=x):=by
 rw[List.getElem?_append] at h;split at h
 ·exact .inl h
 ·rename_i hn
  have:i-l.length=0:=by
   rcases Nat.eq_zero_or_pos (i-l.length) with h0|h0
   ·exact h0
   ·rw[List.getElem?_eq_none (by simp;omega)] at h;cases h
  rw[this] at h;injection h with h;exact .inr ⟨by omega,h.symm⟩
theorem img_ok{il:List (List (Array Value))}(h: ∀l∈il,∀r∈l,∃t:ByteArray,r= #[.string t])(i:Nat): ∀r∈il.getD i [],∃t:ByteArray,r= #[.string t]:=by
 intro r hr;rw[List.getD_eq_getElem?_getD] at hr;cases e:il[i]? with
 |none=>rw[e] at hr;cases hr
 |some l=>rw[e] at hr;exact h l (List.mem_of_getElem? e) r hr
theorem img_le{il:List (List (Array Value))}(h: ∀l∈il,l.length<=10000000)(i:Nat):(il.getD i []).length<=10000000:=by
 rw[List.getD_eq_getElem?_getD];cases e:il[i]? with
 |none=>exact Nat.zero_le _
 |some l=>exact h l (List.mem_of_getElem? e)
theorem chan_oks{np:Nat}{lC:List (Array Value)}{q:Array Value->Bool}(h: ∀r∈lC,Ty gx r)(k: ∀r∈lC,qI np r=true): ∀r∈lC.filter q,ChanOk r:=fun r hr=>by
 have hm:=(List.mem_filter.1 hr).1;exact⟨h r hm,(chan_part (k r hm)).2.2.2.2⟩
theorem St.swap0{M X0 X:Nat->Prop}{w0 W:World}{x:Nat×Array Value×TypeId}{bs:List (Nat×Array Value×TypeId)}{G:(Nat->Prop)->World->Prop}(k:St M X0 w0 (x::bs) G X W):St M X0 w0 (bs++ [x]) G X W:=by
 have ex: ∀{j:Nat} {y:Nat×Array Value×TypeId},(bs++ [x])[j]? =some y-> ∃j',(x::bs)[j']? =some y/\(j'=if j<bs.length then j+1 else 0)/\j<=bs.length:=by
  intro j y h;have hj:j<(bs++ [x]).length:=(List.getElem?_eq_some_iff.1 h).1;simp only[List.length_append,List.length_cons,List.length_nil] at hj;rw[List.getElem?_append] at h;split at h
  ·rename_i hlt
   exact⟨j+1,by simpa using h,by rw[if_pos hlt],by omega⟩
  ·rename_i hge
   have e:j-bs.length=0:=by omega
   rw[e] at h;exact⟨0,by simpa using h,by rw[if_neg hge],by omega⟩
 refine⟨k.only,k.sup,k.lt,k.own,fun h=> ?_,fun{p q} y z hp hq hne=> ?_,k.fact,k.per⟩
 ·obtain⟨j',hj,_⟩:=ex h
  exact k.box hj
 ·obtain⟨p',hp',e1,l1⟩:=ex hp
  obtain⟨q',hq',e2,l2⟩:=ex hq;refine k.nodup hp' hq' ?_;rw[e1,e2];split<;>split<;>omega
def LoopI(p:Pn)(A5:Option Addr)(X0:Nat->Prop)(w:World)(b37 b36 c27 c26 kk:Nat)(W:World):Prop:=
 (kk=0/\Stay (fun _=>False) X0 w [(b37,SyC p ⟨0,0,0,.slice none 0 0,.slice A5 p.lP.length p.lP.length,-1,[],List.replicate p.lP.length jd⟩,36),(b36,zSy,36),(c27,#[p.vI],27),(c26,PLC p.vP p.fr p.vW p.vC,26)] (LG p [] (.slice A5 p.lP.length p.lP.length) (List.replicate p.lP.length jd)) W)\/
 ∃(g cap:Nat) (cur:Array Value) (S:List Se),S.length=kk/\0<kk/\Rw 19 kk cap cur (S.map seC)/\w.heap.size<=g/\(∀(i:Nat) (z:Se),S[i]? =some z->SeB p i z)/\
  Stay (fun _=>False) X0 w [(b37,SyC p ⟨0,0,0,.slice (some ⟨g,0,none⟩) kk cap,.slice A5 p.lP.length p.lP.length,-1,S,List.replicate p.lP.length jd⟩,36),(b36,zSy,36),(c27,#[p.vI],27),(c26,PLC p.vP p.fr p.vW p.vC,26),(g,cur,58)] (LG p S (.slice A5 p.lP.length p.lP.length) (List.replicate p.lP.length jd)) W
theorem hbegin_any(p:Pn)(X0:Nat->Prop)(w:World)(hX: ∀b,X0 b->b<w.heap.size)(hG:PnG p X0 w)(hT:ZJ p.lP p.wl p.lC)(hI: ∀l∈p.il,∀r∈l,∃t:ByteArray,r= #[.string t])(hIl: ∀l∈p.il,l.length<=10000000)(hf0: -9223372036854775808<=p.fr)(hf1:p.fr<=9223372036854775807):
  Calls Tryz.prog 7 #[.agg (PLC p.vP p.fr p.vW p.vC),p.vI] w (BegR p X0 w):=by
 obtain⟨vP,lP,fr,vW,lW,wl,vC,lC,vI,lI,il⟩:=p;dsimp only at hT hI hIl hf0 hf1;obtain⟨AP,cP,eP,hlP,hcP⟩:=hG.1.1.len;dsimp only at eP;subst eP;unfold maxLen at hcP;obtain⟨AI,cI,eI,_,_⟩:=hG.2.1.len;dsimp only at eI;subst eI;have k:Hid (St (fun _=>False) X0 w [] (PnG ⟨.slice AP lP.length cP,lP,fr,vW,lW,wl,vC,lC,.slice AI lI.length cI,lI,il⟩) X0 w):=St.begin hX hG (per_pn _);have HT:=Lib.hid hT;have HI:=Lib.hid hI;have HIL:=Lib.hid hIl;clear hG hT hI hIl;go_enter Tryz.func7,Tryz.ntmps7
 go_upto_region 1 with(first|((with_reducible refine zI ?_);first|(refine bxa k (T:=26) rfl ?_;clear k;intro c26 X W k)|(refine bx1 k (T:=27) rfl rfl ?_;clear k;intro c27 X W k))|((with_reducible refine zf ?_);refine ala k Tryz.zeroValue36 ?_;clear k;intro b36 X W k))
 replace k:Hid (St _ _ _ [(b36,zSy,_),(c27,#[.slice AI lI.length cI],_),(c26,#[.slice AP lP.length cP,.int .i64 fr,vW,vC],_)] _ _ _):=k;go_wp2_with((with_reducible refine zz ?_);refine lda k rfl rfl .a2 (by rfl) ?_);refine(pcheck_any _ lP fr vW lW wl vC lC _ _ k.out.lt k.out.fact.1 HT.out hf0 hf1).mono ?_;rintro e W1 ⟨rfl,hb⟩;replace k:=zj (k.out.call hb);clear hb;obtain⟨cv,hcv⟩: ∃a,yv fr lP wl lC=a:=⟨_,rfl⟩;rw[hcv];have HCV:=Lib.hid hcv;clear hcv;by_cases h0:cv=0
 ·subst h0
  have hck:=vx HCV.out;have hlen4:=hck.1;have hlC6:=hck.2.2.1;have HCH:=Lib.hid hck.2.2.2.2.2.2.2.2;clear hck;have HP:Hid (PnT ⟨.slice AP lP.length cP,lP,fr,vW,lW,wl,vC,lC,.slice AI lI.length cI,lI,il⟩):=⟨HT.out,HCV.out,HI.out,HIL.out⟩
  go_upto_region 4 with fail
  try simp only[Act.put,tS,t0,t1]
  go_cut [7] from 17 to 23 (fun s7 wx=> ∃(b37:Nat) (A5:Option Addr) (X:Nat->Prop),s7= .pointer (some ⟨b37,0,none⟩)/\Hid (St (fun _=>False) X0 w [(b37,SyC ⟨.slice AP lP.length cP,lP,fr,vW,lW,wl,vC,lC,.slice AI lI.length cI,lI,il⟩ ⟨0,0,0,.slice none 0 0,.slice A5 lP.length lP.length,-1,[],List.replicate lP.length jd⟩,36),(b36,zSy,36),(c27,#[.slice AI lI.length cI],27),(c26,PLC (.slice AP lP.length cP) fr vW vC,26)] (LG ⟨.slice AP lP.length cP,lP,fr,vW,lW,wl,vC,lC,.slice AI lI.length cI,lI,il⟩ [] (.slice A5 lP.length lP.length) (List.replicate lP.length jd)) X wx))
  case first=>
   have HPer:=Lib.hid k.out.per;refine zt k 8 9 (by kernel_rfl) rfl ?_;clear k;intro W k;refine zq [(0,some 17,[8]),(1,some 18,[8]),(2,some 19,[8]),(3,some 20,[8]),(4,some 21,[8])] [?v1_0,?v1_1,?v1_2,?v1_3,?v1_4] 4 (by kernel_rfl) ⟨_,k.out⟩ ?l1 ?h1;case l1=>
    intro w' hSw;iterate 5
     refine lkw rfl rfl (by rfl) ?_ ?_
     ·first|((with_reducible refine yw ?_);first|exact hSw.l1 rfl rfl (by repeat constructor) (by rfl)|exact hSw.la rfl rfl .a2 (by rfl) (by rfl)|exact hSw.lp rfl rfl (by repeat constructor) (D:= #[_,_,_,_]) (by rfl) (by rfl) (by rfl))|(go_simp<;>with_reducible rfl)
     try simp only[Act.put,tS,t0,t1]
    trivial
   simp only[zw,zk,Act.put,tS,t0,t1];refine yI (i:=5) (j:=7) (fuel:=3) (by kernel_rfl) rfl rfl ?_ ?_
   ·go_wp2_with((with_reducible refine at_make ?_);refine wpList_mkstamps rfl rfl hlen4 rfl rfl ?_;intro A5 W5 hown5 hb5)
    have hf5:=zV hown5 (fun q hq=>by rw[List.eq_of_mem_replicate hq];rfl) k.out.lt;rw[List.length_replicate] at hown5;replace k:=zj ((k.out.call hb5).add hf5 (zb _ _ _));clear hown5 hb5 hf5;refine zd (yz ⟨_,k.out.turn And.left HPer.out⟩) ?_;refine zq [(6,some 23,[8])] [?v2_6] 2 (by kernel_rfl) ⟨_,k.out.turn And.left HPer.out⟩ ?l2 ?h2;case l2=>
     intro w' hSw;refine lkw rfl rfl (by rfl) ?_ ?_
     ·go_simp<;>with_reducible rfl
     try simp only[Act.put,tS,t0,t1]
     trivial
    simp only[zw,zk,Act.put,tS,t0,t1];refine w1 7 1 (by kernel_rfl) rfl ?_;go_wp2_with((with_reducible refine zf ?_);refine ala k Tryz.zeroValue36 ?_;clear k;intro b37 X W k);refine zd (yz ⟨_,(k.out.drop (n:=1)).turn And.left HPer.out⟩) ?_;refine w1 8 0 (by kernel_rfl) rfl ?_;have hoS:yZ (SyC ⟨.slice AP lP.length cP,lP,fr,vW,lW,wl,vC,lC,.slice AI lI.length cI,lI,il⟩ ⟨0,0,0,.slice none 0 0,.slice A5 lP.length lP.length,-1,[],List.replicate lP.length jd⟩):=qw (p:=⟨.slice AP lP.length cP,lP,fr,vW,lW,wl,vC,lC,.slice AI lI.length cI,lI,il⟩) (m:=0) (y:=⟨0,0,0,.slice none 0 0,.slice A5 lP.length lP.length,-1,[],List.replicate lP.length jd⟩) ⟨k.out.fact.1,qz _ _ _,(fun _ h=>by cases h),k.out.fact.2,arr_zero _ _ _ _⟩;go_wp2_with(first|((with_reducible refine zx ?_);refine soa k rfl rfl rfl .a0 (by rfl) (by rfl) hoS ?_;clear k;intro W k)|fail);refine zd (zJ rfl) ?_;refine zv (by kernel_rfl) ?_ _;clear HPer;replace k:Hid (St _ _ _ [(b37,SyC ⟨.slice AP lP.length cP,lP,fr,vW,lW,wl,vC,lC,.slice AI lI.length cI,lI,il⟩ ⟨0,0,0,.slice none 0 0,.slice A5 lP.length lP.length,-1,[],List.replicate lP.length jd⟩,_),(b36,zSy,_),(c27,#[.slice AI lI.length cI],_),(c26,#[.slice AP lP.length cP,.int .i64 fr,vW,vC],_)] _ _ _):=k;replace k:Hid (St _ _ _ _ (LG ⟨.slice AP lP.length cP,lP,fr,vW,lW,wl,vC,lC,.slice AI lI.length cI,lI,il⟩ [] (.slice A5 lP.length lP.length) (List.replicate lP.length jd)) _ _):=zj (k.out.turn (fun h=>⟨h.1,(fun _ h=>by cases h),h.2,arr_zero _ _ _ _⟩) (per_lg _ _ _ _));go_wp2_with fail
    go_meet
    exact⟨b37,_,_,rfl,k⟩
   ·go_wp2_with((with_reducible refine zf ?_);refine ala k Tryz.zeroValue36 ?_;clear k;intro b37 X W k)
    refine zd (yz ⟨_,k.out.drop (n:=1)⟩) ?_;refine w1 5 2 (by kernel_rfl) rfl ?_;go_wp2_with((with_reducible refine at_make ?_);refine wpList_mkstamps rfl rfl hlen4 rfl rfl ?_;intro A5 W5 hown5 hb5);have hf5:=zV hown5 (fun q hq=>by rw[List.eq_of_mem_replicate hq];rfl) k.out.lt;rw[List.length_replicate] at hown5;replace k:=zj ((k.out.call hb5).add hf5 (zb _ _ _));clear hown5 hb5 hf5;refine zd (yz ⟨_,(k.out.drop (n:=1)).turn And.left HPer.out⟩) ?_;refine zq [(6,some 23,[8])] [?v3_6] 1 (by kernel_rfl) ⟨_,(k.out.drop (n:=1)).turn And.left HPer.out⟩ ?l3 ?h3;case l3=>
     intro w' hSw;refine lkw rfl rfl (by rfl) ?_ ?_
     ·go_simp<;>with_reducible rfl
     try simp only[Act.put,tS,t0,t1]
     trivial
    simp only[zw,zk,Act.put,tS,t0,t1];refine w1 8 0 (by kernel_rfl) rfl ?_;have hoS:yZ (SyC ⟨.slice AP lP.length cP,lP,fr,vW,lW,wl,vC,lC,.slice AI lI.length cI,lI,il⟩ ⟨0,0,0,.slice none 0 0,.slice A5 lP.length lP.length,-1,[],List.replicate lP.length jd⟩):=qw (p:=⟨.slice AP lP.length cP,lP,fr,vW,lW,wl,vC,lC,.slice AI lI.length cI,lI,il⟩) (m:=0) (y:=⟨0,0,0,.slice none 0 0,.slice A5 lP.length lP.length,-1,[],List.replicate lP.length jd⟩) ⟨k.out.fact.1,qz _ _ _,(fun _ h=>by cases h),k.out.fact.2,arr_zero _ _ _ _⟩;go_wp2_with(first|((with_reducible refine zx ?_);refine soa k rfl rfl rfl .a0 (by rfl) (by rfl) hoS ?_;clear k;intro W k)|fail);refine zd (zJ rfl) ?_;refine zv (by kernel_rfl) ?_ _;clear HPer;replace k:Hid (St _ _ _ [(b37,SyC ⟨.slice AP lP.length cP,lP,fr,vW,lW,wl,vC,lC,.slice AI lI.length cI,lI,il⟩ ⟨0,0,0,.slice none 0 0,.slice A5 lP.length lP.length,-1,[],List.replicate lP.length jd⟩,_),(b36,zSy,_),(c27,#[.slice AI lI.length cI],_),(c26,#[.slice AP lP.length cP,.int .i64 fr,vW,vC],_)] _ _ _):=k;replace k:Hid (St _ _ _ _ (LG ⟨.slice AP lP.length cP,lP,fr,vW,lW,wl,vC,lC,.slice AI lI.length cI,lI,il⟩ [] (.slice A5 lP.length lP.length) (List.replicate lP.length jd)) _ _):=zj (k.out.turn (fun h=>⟨h.1,(fun _ h=>by cases h),h.2,arr_zero _ _ _ _⟩) (per_lg _ _ _ _));go_wp2_with fail
    go_meet
    exact⟨b37,_,_,rfl,k⟩
  case rest=>
   obtain⟨b37,A5,X,rfl,k2⟩:=hcut;clear k;have k:=k2;clear k2;go_wp2_with((with_reducible refine zz ?_);refine ld1 k rfl rfl .a3 (by rfl) ?_)
   go_loopw [28] (fun i W=> ∃kk:Nat,kk<=lP.length/\i= .int .i64 kk/\Hid (LoopI ⟨.slice AP lP.length cP,lP,fr,vW,lW,wl,vC,lC,.slice AI lI.length cI,lI,il⟩ A5 X0 w b37 b36 c27 c26 kk W)) (fun i _=>lP.length-(intOf i).toNat)
   case atStart=>exact⟨0,Nat.zero_le _,rfl,zj (.inl ⟨rfl,⟨_,k.out⟩⟩)⟩
   case round=>
    obtain⟨kk,hkk,rfl,hL⟩:=hrel;clear k;rcases hL.out with⟨rfl,hS⟩|⟨g,cap,cur,S,hSl,hk0,hRw,hwg,hSB,hS⟩
    ·clear hL
     obtain⟨X,kS⟩:=hS;have k:=zj kS;clear kS;have hlt:0<lP.length:=by have:=(vx HCV.out).2.2.2.1;omega
     obtain⟨r,hr⟩: ∃r,lP[0]? =some r:=⟨_,List.getElem?_eq_getElem hlt⟩;have htp:=HT.out.P r (List.mem_of_getElem? hr);obtain⟨pm,a0,a1,a2,rfl,hp0,hp1⟩:=part_lit htp;obtain⟨bp0,op0,eA2,_⟩:=k.out.fact.1.1.1.row hr (by decide);have HEA:=Lib.hid eA2;subst eA2;clear HEA;have HD:=zj k.out.fact.1.1.1;have HR:=Lib.hid hr;have hki:((0:Nat):Int)<lP.length:=by omega
     have hkc:((0:Nat):Int)<cP:=by omega
     clear hr htp
     go_upto_region 9 with(first|((with_reducible refine zz ?_);refine xV rfl rfl HD.out HR.out (by decide) rfl ⟨_,rfl,by first|rfl|omega⟩ (Tryz.isAgg76 _) (Tryz.sizeOf76 _) ?_)|(first|((with_reducible refine zx ?_);refine soa k rfl rfl rfl .a0 (by rfl) (by rfl) (zm rfl) ?_;clear k;intro W k)|((with_reducible refine zf ?_);refine ala k Tryz.zeroValue76 ?_;clear k;intro b76 X W k)))
     clear HD;replace k:Hid (St _ _ _ [(b76,#[.int .i64 pm,.int .i64 a0,.int .i64 a1,.int .i64 a2],_),(b37,SyC ⟨.slice (some ⟨bp0,op0,none⟩) lP.length cP,lP,fr,vW,lW,wl,vC,lC,.slice AI lI.length cI,lI,il⟩ ⟨0,0,0,(.slice none 0 0),.slice A5 lP.length lP.length,-1,[],List.replicate lP.length jd⟩,_),(b36,zSy,_),(c27,#[.slice AI lI.length cI],_),(c26,PLC (.slice (some ⟨bp0,op0,none⟩) lP.length cP) fr vW vC,_)] _ _ _):=k;have HPer:=Lib.hid k.out.per;refine zt k 14 17 (by kernel_rfl) rfl ?_;clear k;intro W k;refine zq [(0,some 33,[1,14]),(1,some 34,[14]),(2,some 35,[12,14]),(3,some 36,[5,12,14]),(4,some 37,[5,12,14]),(6,some 39,[8,12,14]),(7,some 40,[8,12,14]),(9,some 42,[11,12,14]),(10,some 43,[11,12,14])] [?v4_0,?v4_1,?v4_2,?v4_3,?v4_4,?v4_6,?v4_7,?v4_9,?v4_10] 8 (by kernel_rfl) ⟨_,k.out⟩ ?l4 ?h4;case l4=>
      intro w' hSw;iterate 9
       refine lkw rfl rfl (by rfl) ?_ ?_
       ·first|((with_reducible refine yw ?_);first|exact hSw.l1 rfl rfl (by repeat constructor) (by rfl)|exact hSw.la rfl rfl (by repeat constructor) (by rfl) (by rfl)|exact hSw.lp rfl rfl (by repeat constructor) (D:= #[_,_,_,_]) (by rfl) (by rfl) (by rfl))|(go_simp<;>with_reducible rfl)
       try simp only[Act.put,tS,t0,t1]
      trivial
     simp only[zw,zk,Act.put,tS,t0,t1];refine w1 5 7 (by kernel_rfl) rfl ?_;go_wp2_with fail;refine(imgs_any 0 _ lI il c27 _ _ k.out.lt (k.out.blk (i:=3) rfl) k.out.fact.1.2.1 k.out.fact.1.2.2 (by omega)).mono ?_;rintro e W2 ⟨v2,rfl,hsl2,hb2⟩;replace k:=zj ((k.out.call hb2).add hsl2 (zb _ _ _));clear hb2 hsl2;go_wp2_with fail;refine zd (yz ⟨_,k.out.turn And.left HPer.out⟩) ?_;refine w1 8 6 (by kernel_rfl) rfl ?_;go_wp2_with fail;refine(routs_any _ fr vW vC lC 0 _ _ k.out.lt k.out.fact.1.1.1.2.2.2 HT.out.C (by omega)).mono ?_;rintro e W3 ⟨v3,rfl,hsl3,hb3⟩;replace k:=zj ((k.out.call hb3).add hsl3 (zb _ _ _));clear hb3 hsl3;go_wp2_with fail;refine zd (yz ⟨_,k.out.turn (fun h=>h.1.1) HPer.out⟩) ?_;refine w1 11 5 (by kernel_rfl) rfl ?_;go_wp2_with fail;refine(rins_any _ fr vW vC lC 0 _ _ k.out.lt k.out.fact.1.1.1.1.2.2.2 HT.out.C (by omega)).mono ?_;rintro e W4 ⟨v4,rfl,hsl4,hb4⟩;replace k:=zj ((k.out.call hb4).add hsl4 (zb _ _ _));clear hb4 hsl4;go_wp2_with fail;refine zd (yz ⟨_,k.out.turn (fun h=>h.1.1.1) HPer.out⟩) ?_;refine w1 12 4 (by kernel_rfl) rfl ?_;go_wp2_with fail;refine(sbegin_any pm a0 a1 a2 v2 (il.getD 0 []) v3 _ v4 _ _ _ k.out.lt ⟨k.out.fact.1.1.2,k.out.fact.1.2,k.out.fact.2⟩ (img_ok HI.out _) (chan_oks HT.out.C HCH.out) (chan_oks HT.out.C HCH.out) (img_le HIL.out _) (Nat.le_trans (List.length_filter_le _ _) hlC6) (Nat.le_trans (List.length_filter_le _ _) hlC6) hp0 hp1).mono ?_;rintro e W5 ⟨x5,st5,bo5,rfl,hsl5,hok5,him5,hou5,his5,hno5,htr5,hst5,hbo5,hid5,hb5⟩;have ho5:yZ (SC x5 st5 bo5):=Zb hsl5 st5 bo5;have SB5:Hid (SeB ⟨.slice (some ⟨bp0,op0,none⟩) lP.length cP,lP,fr,vW,lW,wl,vC,lC,.slice AI lI.length cI,lI,il⟩ 0 ⟨x5,st5,bo5⟩):=⟨⟨hok5,(by intro q hq;change q∈x5.Tr at hq;rw[htr5] at hq;cases hq),(congrArg List.length his5),(by show x5.Im.length<=_;rw[him5];exact img_le HIL.out _),⟨hbo5.1,hbo5.2⟩,(by show st5=1\/st5=2\/st5=3;omega),(by show x5.now<=_;omega)⟩,hno5,hst5,fun r hr ha hi=>hid5 hi (by have e:=HR.out.symm.trans hr;injection e with e;subst e;exact ha)⟩;replace k:=zj ((k.out.call hb5).add hsl5 (zO _));clear hb5 hsl5 hok5 him5 hou5 his5 hno5 htr5 hst5 hbo5 hid5;go_wp2_with fail;refine zd (yz ⟨_,k.out.turn (fun h=>h.1.1.1.1) HPer.out⟩) ?_;refine w1 13 3 (by kernel_rfl) rfl ?_;have hszS:(SC x5 st5 bo5).size=19:=rfl;go_wp2_with((with_reducible refine qY ?_);refine qp k elSeat rfl rfl rfl rfl hszS (by decide) (by decide) ?_;clear k;intro brow X W k);have hkr:=k.out.blk (i:=0) rfl;replace k:=zj (k.out.drop (n:=1));refine zd (yz ⟨_,k.out.turn (fun h=>h.1.1.1.1) HPer.out⟩) ?_;refine w1 14 2 (by kernel_rfl) rfl ?_;have hownc:W.ownsRow w.heap.size 58 19 (.slice none 0 0) ([]:List (Array Value)).length (yy []):=⟨rfl,.inl ⟨rfl,rfl⟩⟩;have hwW:=k.out.only.size;go_wp2_with((with_reducible refine jZ ?_);refine yO elSeat (by decide) rfl (.tmp 34) (.tmp 46) rfl w.heap.size _ [] rfl hownc (fun _=>False) _ [SC x5 st5 bo5] rfl (qU hkr rfl (Nat.le_refl 1) (by unfold maxLen;omega)) (by intro r hr;rw[List.mem_singleton.1 hr];exact ho5) (by first|(simp;done)|(simp;omega)) (by omega) hwW ?_;intro v6 W6 hown6 hb6 hsz6 hob6 hgr6);obtain⟨g6,cap6,cur6,X6,rfl,hRw6,k6,hX6⟩:=(k.out).appn hown6 rfl (xl (fun _ h=>by cases h) rfl) (by simp) hgr6 hob6 (fun _ h=>by cases h);have hwg6:w.heap.size<=g6:=(jG hown6 rfl).1;clear k hkr hown6 hb6 hsz6 hob6 hgr6 hownc hX6;have k:=zj k6;clear k6;have HRW6:=Lib.hid hRw6;clear hRw6;refine zd (zJ rfl) ?_;refine zU [(15,some 48,[])] [?v5_15] 1 (by kernel_rfl) (.inr (by kernel_rfl)) ?l5 ?h5;case l5=>
      intro w';refine lkw rfl rfl (by rfl) ?_ ?_
      ·go_simp<;>with_reducible rfl
      try simp only[Act.put,tS,t0,t1]
      trivial
     simp only[zw,zk,Act.put,tS,t0,t1];refine w1 16 0 (by kernel_rfl) rfl ?_;go_wp2_with((with_reducible refine zx ?_);refine yE k (E:=SyC ⟨.slice (some ⟨bp0,op0,none⟩) lP.length cP,lP,fr,vW,lW,wl,vC,lC,.slice AI lI.length cI,lI,il⟩ ⟨0,0,0,(.slice (some ⟨g6,0,none⟩) 1 cap6),.slice A5 lP.length lP.length,-1,[(⟨x5,st5,bo5⟩:Se)],List.replicate lP.length jd⟩) (G':=LG ⟨.slice (some ⟨bp0,op0,none⟩) lP.length cP,lP,fr,vW,lW,wl,vC,lC,.slice AI lI.length cI,lI,il⟩ [(⟨x5,st5,bo5⟩:Se)] (.slice A5 lP.length lP.length) (List.replicate lP.length jd)) rfl rfl rfl rfl .a2 (by rfl) (by rfl) (per_lg _ _ _ _) (fun X W h=>⟨h.1.1.1.1.1,(fun z hz=>by rw[List.mem_singleton.1 hz];exact h.2),h.1.1.1.1.2.2⟩) ?_;clear k;intro W k);refine zd (qb (by kernel_rfl)) ?_;refine zv (by kernel_rfl) ?_ _;clear HPer;go_wp2_with fail
     go_roundw
     case rel=>exact⟨0+1,by omega,by go_num,zj (.inr ⟨g6,cap6,cur6,[(⟨x5,st5,bo5⟩:Se)],(by rfl),by omega,(by exact HRW6.out),hwg6,(fun i z h=>by rcases app_get (l:=[]) h with h|⟨h1,h2⟩;exact(fun i z h=>by cases h) i z h;subst h2;rw[h1];exact SB5.out),⟨_,(k.out.erase 1).swap0⟩⟩)⟩
     case measure=>simp[intOf];omega
    ·clear hL
     have HSB:=Lib.hid hSB;have HRW:=Lib.hid hRw;have HSL:=Lib.hid hSl;clear hSB hRw hSl;obtain⟨X,kS⟩:=hS;have k:=zj kS;clear kS;by_cases hlt:kk<lP.length
     ·obtain⟨r,hr⟩: ∃r,lP[kk]? =some r:=⟨_,List.getElem?_eq_getElem hlt⟩
      have htp:=HT.out.P r (List.mem_of_getElem? hr);obtain⟨pm,a0,a1,a2,rfl,hp0,hp1⟩:=part_lit htp;obtain⟨bp0,op0,eA2,_⟩:=k.out.fact.1.1.1.row hr (by decide);have HEA:=Lib.hid eA2;subst eA2;clear HEA;have HD:=zj k.out.fact.1.1.1;have HR:=Lib.hid hr;have hki:((kk:Nat):Int)<lP.length:=by omega
      have hkc:((kk:Nat):Int)<cP:=by omega
      clear hr htp
      go_upto_region 9 with(first|((with_reducible refine zz ?_);refine xV rfl rfl HD.out HR.out (by decide) rfl ⟨_,rfl,by first|rfl|omega⟩ (Tryz.isAgg76 _) (Tryz.sizeOf76 _) ?_)|(first|((with_reducible refine zx ?_);refine soa k rfl rfl rfl .a0 (by rfl) (by rfl) (zm rfl) ?_;clear k;intro W k)|((with_reducible refine zf ?_);refine ala k Tryz.zeroValue76 ?_;clear k;intro b76 X W k)))
      clear HD;replace k:Hid (St _ _ _ [(b76,#[.int .i64 pm,.int .i64 a0,.int .i64 a1,.int .i64 a2],_),(b37,SyC ⟨.slice (some ⟨bp0,op0,none⟩) lP.length cP,lP,fr,vW,lW,wl,vC,lC,.slice AI lI.length cI,lI,il⟩ ⟨0,0,0,(.slice (some ⟨g,0,none⟩) kk cap),.slice A5 lP.length lP.length,-1,S,List.replicate lP.length jd⟩,_),(b36,zSy,_),(c27,#[.slice AI lI.length cI],_),(c26,PLC (.slice (some ⟨bp0,op0,none⟩) lP.length cP) fr vW vC,_),(g,cur,_)] _ _ _):=k;have HPer:=Lib.hid k.out.per;refine zt k 14 17 (by kernel_rfl) rfl ?_;clear k;intro W k;refine zq [(0,some 33,[1,14]),(1,some 34,[14]),(2,some 35,[12,14]),(3,some 36,[5,12,14]),(4,some 37,[5,12,14]),(6,some 39,[8,12,14]),(7,some 40,[8,12,14]),(9,some 42,[11,12,14]),(10,some 43,[11,12,14])] [?v6_0,?v6_1,?v6_2,?v6_3,?v6_4,?v6_6,?v6_7,?v6_9,?v6_10] 8 (by kernel_rfl) ⟨_,k.out⟩ ?l6 ?h6;case l6=>
       intro w' hSw;iterate 9
        refine lkw rfl rfl (by rfl) ?_ ?_
        ·first|((with_reducible refine yw ?_);first|exact hSw.l1 rfl rfl (by repeat constructor) (by rfl)|exact hSw.la rfl rfl (by repeat constructor) (by rfl) (by rfl)|exact hSw.lp rfl rfl (by repeat constructor) (D:= #[_,_,_,_]) (by rfl) (by rfl) (by rfl))|(go_simp<;>with_reducible rfl)
        try simp only[Act.put,tS,t0,t1]
       trivial
      simp only[zw,zk,Act.put,tS,t0,t1];refine w1 5 7 (by kernel_rfl) rfl ?_;go_wp2_with fail;refine(imgs_any kk _ lI il c27 _ _ k.out.lt (k.out.blk (i:=3) rfl) k.out.fact.1.2.1 k.out.fact.1.2.2 (by omega)).mono ?_;rintro e W2 ⟨v2,rfl,hsl2,hb2⟩;replace k:=zj ((k.out.call hb2).add hsl2 (zb _ _ _));clear hb2 hsl2;go_wp2_with fail;refine zd (yz ⟨_,k.out.turn And.left HPer.out⟩) ?_;refine w1 8 6 (by kernel_rfl) rfl ?_;go_wp2_with fail;refine(routs_any _ fr vW vC lC kk _ _ k.out.lt k.out.fact.1.1.1.2.2.2 HT.out.C (by omega)).mono ?_;rintro e W3 ⟨v3,rfl,hsl3,hb3⟩;replace k:=zj ((k.out.call hb3).add hsl3 (zb _ _ _));clear hb3 hsl3;go_wp2_with fail;refine zd (yz ⟨_,k.out.turn (fun h=>h.1.1) HPer.out⟩) ?_;refine w1 11 5 (by kernel_rfl) rfl ?_;go_wp2_with fail;refine(rins_any _ fr vW vC lC kk _ _ k.out.lt k.out.fact.1.1.1.1.2.2.2 HT.out.C (by omega)).mono ?_;rintro e W4 ⟨v4,rfl,hsl4,hb4⟩;replace k:=zj ((k.out.call hb4).add hsl4 (zb _ _ _));clear hb4 hsl4;go_wp2_with fail;refine zd (yz ⟨_,k.out.turn (fun h=>h.1.1.1) HPer.out⟩) ?_;refine w1 12 4 (by kernel_rfl) rfl ?_;go_wp2_with fail;refine(sbegin_any pm a0 a1 a2 v2 (il.getD kk []) v3 _ v4 _ _ _ k.out.lt ⟨k.out.fact.1.1.2,k.out.fact.1.2,k.out.fact.2⟩ (img_ok HI.out _) (chan_oks HT.out.C HCH.out) (chan_oks HT.out.C HCH.out) (img_le HIL.out _) (Nat.le_trans (List.length_filter_le _ _) hlC6) (Nat.le_trans (List.length_filter_le _ _) hlC6) hp0 hp1).mono ?_;rintro e W5 ⟨x5,st5,bo5,rfl,hsl5,hok5,him5,hou5,his5,hno5,htr5,hst5,hbo5,hid5,hb5⟩;have ho5:yZ (SC x5 st5 bo5):=Zb hsl5 st5 bo5;have SB5:Hid (SeB ⟨.slice (some ⟨bp0,op0,none⟩) lP.length cP,lP,fr,vW,lW,wl,vC,lC,.slice AI lI.length cI,lI,il⟩ kk ⟨x5,st5,bo5⟩):=⟨⟨hok5,(by intro q hq;change q∈x5.Tr at hq;rw[htr5] at hq;cases hq),(congrArg List.length his5),(by show x5.Im.length<=_;rw[him5];exact img_le HIL.out _),⟨hbo5.1,hbo5.2⟩,(by show st5=1\/st5=2\/st5=3;omega),(by show x5.now<=_;omega)⟩,hno5,hst5,fun r hr ha hi=>hid5 hi (by have e:=HR.out.symm.trans hr;injection e with e;subst e;exact ha)⟩;replace k:=zj ((k.out.call hb5).add hsl5 (zO _));clear hb5 hsl5 hok5 him5 hou5 his5 hno5 htr5 hst5 hbo5 hid5;go_wp2_with fail;refine zd (yz ⟨_,k.out.turn (fun h=>h.1.1.1.1) HPer.out⟩) ?_;refine w1 13 3 (by kernel_rfl) rfl ?_;have hszS:(SC x5 st5 bo5).size=19:=rfl;go_wp2_with((with_reducible refine qY ?_);refine qp k elSeat rfl rfl rfl rfl hszS (by decide) (by decide) ?_;clear k;intro brow X W k);have hkr:=k.out.blk (i:=0) rfl;replace k:=zj (k.out.drop (n:=1));refine zd (yz ⟨_,k.out.turn (fun h=>h.1.1.1.1) HPer.out⟩) ?_;refine w1 14 2 (by kernel_rfl) rfl ?_;have hownc:W.ownsRow w.heap.size 58 19 (.slice (some ⟨g,0,none⟩) kk cap) ((S.map seC):List (Array Value)).length (yy (S.map seC)):=own_of_rwn HRW.out (k.out.blk (i:=5) rfl) hwg;have hwW:=k.out.only.size;go_wp2_with((with_reducible refine jZ ?_);refine yO elSeat (by decide) rfl (.tmp 34) (.tmp 46) rfl w.heap.size _ (S.map seC) rfl hownc (fun _=>False) _ [SC x5 st5 bo5] rfl (qU hkr rfl (Nat.le_refl 1) (by unfold maxLen;omega)) (by intro r hr;rw[List.mem_singleton.1 hr];exact ho5) (by have:=HSL.out;simp;omega) (by omega) hwW ?_;intro v6 W6 hown6 hb6 hsz6 hob6 hgr6);obtain⟨g6,cap6,cur6,X6,rfl,hRw6,k6,hX6⟩:=(k.out.erase 5).appn hown6 rfl (xl HRW.out.sz rfl) (by simp) hgr6 hob6 (fun g1 e=>by obtain rfl:g=g1:=Option.some.inj e;exact⟨(k.out.box (i:=5) rfl).1,(k.out.box (i:=5) rfl).2.1,k.out.erase_ne (i:=5) rfl⟩);have hwg6:w.heap.size<=g6:=(jG hown6 rfl).1;have hl6:(List.map seC S++ [SC x5 st5 bo5]).length=kk+1:=by simp[HSL.out]
      rw[hl6] at hRw6⊢;clear hl6;clear k hkr hown6 hb6 hsz6 hob6 hgr6 hownc hX6;have k:=zj k6;clear k6;have HRW6:=Lib.hid hRw6;clear hRw6;refine zd (zJ rfl) ?_;refine zU [(15,some 48,[])] [?v7_15] 1 (by kernel_rfl) (.inr (by kernel_rfl)) ?l7 ?h7;case l7=>
       intro w';refine lkw rfl rfl (by rfl) ?_ ?_
       ·go_simp<;>with_reducible rfl
       try simp only[Act.put,tS,t0,t1]
       trivial
      simp only[zw,zk,Act.put,tS,t0,t1];refine w1 16 0 (by kernel_rfl) rfl ?_;go_wp2_with((with_reducible refine zx ?_);refine yE k (E:=SyC ⟨.slice (some ⟨bp0,op0,none⟩) lP.length cP,lP,fr,vW,lW,wl,vC,lC,.slice AI lI.length cI,lI,il⟩ ⟨0,0,0,(.slice (some ⟨g6,0,none⟩) (kk+1) cap6),.slice A5 lP.length lP.length,-1,(S++ [(⟨x5,st5,bo5⟩:Se)]),List.replicate lP.length jd⟩) (G':=LG ⟨.slice (some ⟨bp0,op0,none⟩) lP.length cP,lP,fr,vW,lW,wl,vC,lC,.slice AI lI.length cI,lI,il⟩ (S++ [(⟨x5,st5,bo5⟩:Se)]) (.slice A5 lP.length lP.length) (List.replicate lP.length jd)) rfl rfl rfl rfl .a2 (by rfl) (by rfl) (per_lg _ _ _ _) (fun X W h=>⟨h.1.1.1.1.1,(fun z hz=>by rcases List.mem_append.1 hz with hz|hz;exact h.1.1.1.1.2.1 z hz;rw[List.mem_singleton.1 hz];exact h.2),h.1.1.1.1.2.2⟩) ?_;clear k;intro W k);refine zd (qb (by kernel_rfl)) ?_;refine zv (by kernel_rfl) ?_ _;clear HPer;go_wp2_with fail
      go_roundw
      case rel=>exact⟨kk+1,by omega,by go_num,zj (.inr ⟨g6,cap6,cur6,S++ [(⟨x5,st5,bo5⟩:Se)],(by simp[HSL.out]),by omega,(by rw[List.map_append];exact HRW6.out),hwg6,(fun i z h=>by rcases app_get (l:=S) h with h|⟨h1,h2⟩;exact HSB.out i z h;subst h2;rw[h1,HSL.out];exact SB5.out),⟨_,(k.out.erase 1).swap0⟩⟩)⟩
      case measure=>simp[intOf];omega
     ·obtain rfl:kk=lP.length:=by omega
      have hsl19:=zj (zV (X:=X0) (own_of_rwn HRW.out (k.out.blk (i:=4) rfl) hwg) HRW.out.sz hX);have hG0:=k.out.out;have hsy:=zj (show SyG ⟨.slice AP lP.length cP,lP,fr,vW,lW,wl,vC,lC,.slice AI lI.length cI,lI,il⟩ 0 ⟨0,0,0,(.slice (some ⟨g,0,none⟩) lP.length cap),.slice A5 lP.length lP.length,-1,S,List.replicate lP.length jd⟩ X0 _ from⟨hG0.1,hsl19.out,hG0.2.1,hG0.2.2⟩);have ho:yZ (SyC ⟨.slice AP lP.length cP,lP,fr,vW,lW,wl,vC,lC,.slice AI lI.length cI,lI,il⟩ ⟨0,0,0,(.slice (some ⟨g,0,none⟩) lP.length cap),.slice A5 lP.length lP.length,-1,S,List.replicate lP.length jd⟩):=qw hsy.out;have hszy:(SyC ⟨.slice AP lP.length cP,lP,fr,vW,lW,wl,vC,lC,.slice AI lI.length cI,lI,il⟩ ⟨0,0,0,(.slice (some ⟨g,0,none⟩) lP.length cap),.slice A5 lP.length lP.length,-1,S,List.replicate lP.length jd⟩).size=11:=rfl;clear hG0 hsl19 hsy;go_wp2_with(first|((with_reducible refine zz ?_);refine lda k rfl rfl .a0 (by with_reducible assumption) ?_)|((with_reducible refine zx ?_);refine soa k rfl rfl rfl .a1 (by with_reducible assumption) (by rfl) (by assumption) ?_;clear k;intro W k));exact bodyPost_ret (yh rfl _ rfl rfl (yx k.out 1 rfl 36 rfl rfl)) rfl (.inr ⟨HCV.out,_,rfl,⟨k.out.out.1,by exact zV (own_of_rwn HRW.out (k.out.blk (i:=4) rfl) hwg) HRW.out.sz hX,k.out.out.2.1,k.out.out.2.2⟩,⟨HSL.out,List.length_replicate,fun i z h=>(HSB.out i z h).ok,⟨Int.le_refl _,Int.le_refl _⟩,fun _=>⟨rfl,rfl⟩⟩,⟨rfl,rfl,rfl,fun i z h=>HSB.out i z h⟩,k.out.end⟩)
 ·have d0:(cv==0)=false:=by rw[beq_eq_false_iff_ne];exact h0
  have n0: ¬(cv=0):=h0;clear h0;go_wp2_with((with_reducible refine zx ?_);refine soa k rfl rfl rfl .a0 (by rfl) (by rfl) (zm rfl) ?_;clear k;intro W k);exact bodyPost_ret (yh rfl _ rfl rfl (yx k.out 0 rfl 36 rfl rfl)) rfl (.inl ⟨by rw[HCV.out];exact n0,by rw[HCV.out];rfl,k.out.end⟩)
end
section
open Go.RowKit Go.Proofs.YtaccidkgnkmagaaGreatDoor.Isa
theorem wins_one{fr:Int}{lP:List (Array Value)}{l:List (Array Value)}{lC:List (Array Value)}(h:yv fr lP [l] lC=0):xy fr lP [l] lC 0=l:=by
 unfold xy;rw[h];rfl
theorem Steps.count{p:Pn}{n:Nat}{y0 y:Sy}{l:List (Array Value)}(h:Steps p n y0 y)(hw:p.wl=[l])(hck:yv p.fr p.lP p.wl p.lC=0)(hn:y0.now=0):
  y.now=n/\y.S.length=y0.S.length/\ ∀(i:Nat) (z:Se),y.S[i]? =some z-> ∃z0,y0.S[i]? =some z0/\ ∀r,p.lP[i]? =some r->zQ r 1=1->z0.x.gone=1->z0.st=1->z.x.gone=1/\z.st=1/\z.x.now=z0.x.now+cntT i p.fr l n:=by
 induction h with
 |zero y=>exact⟨by omega,rfl,fun i z hz=>⟨z,hz,fun _ _ _ a b=>⟨a,b,by simp[cntT]⟩⟩⟩
 |succ h1 hs h2 ih=>
  rename_i m y0 y1 y2;obtain⟨i1,i2,i3⟩:=ih hn;refine⟨by rw[h2.now,i1];omega,h2.len.trans i2,fun i z hz=> ?_⟩;obtain⟨z1,e1,k1⟩:=h2.seat i z hz;obtain⟨z0,e0,k0⟩:=i3 i z1 e1;refine⟨z0,e0,fun r hr ha hg hst=> ?_⟩;obtain⟨g1,s1,n1⟩:=k0 r hr ha hg hst;have q:=k1.idle r hr ha g1 s1;refine⟨q.1,q.2,?_⟩;have hr1:=k1.run s1;have hwn:xy p.fr p.lP p.wl p.lC y1.sched=l:=by
   rw[hs (by rw[hw];rfl)];rw[hw] at hck⊢;exact wins_one hck
  rw[hwn,i1] at hr1;simp only[cntT];omega
def Zl(n:Int):Int:=if n<0 then 0 else if 600<n then 600 else n
theorem most_any(n:Int)(w:World):Calls Tryz.prog 8 #[.int .i64 n] w fun e w'=>e= .returned (.int .i64 (Zl n))/\Below w.heap.size w w':=by
 unfold Zl;by_cases h1:n<0
 ·rw[if_pos h1]
  have d1:decide (n<0)=true:=decide_eq_true h1;clear h1;go_enter Tryz.func8,Tryz.ntmps8;go_wp2_with fail;exact bodyPost_ret (zh rfl rfl) rfl ⟨rfl,Below.refl _ _⟩
 ·rw[if_neg h1]
  have d1:decide (n<0)=false:=decide_eq_false h1;by_cases h2:600<n
  ·rw[if_pos h2]
   have d2:decide (600<n)=true:=decide_eq_true h2;clear h1 h2;go_enter Tryz.func8,Tryz.ntmps8;go_wp2_with fail;exact bodyPost_ret (zh rfl rfl) rfl ⟨rfl,Below.refl _ _⟩
  ·rw[if_neg h2]
   have d2:decide (600<n)=false:=decide_eq_false h2;go_enter Tryz.func8,Tryz.ntmps8;go_wp2_with fail;exact bodyPost_ret (zh rfl rfl) rfl ⟨rfl,Below.refl _ _⟩
def FewR(w:World)(e:Ending)(w':World):Prop:= ∃b,e= .returned (.bool b)/\Below w.heap.size w w'
theorem few_any(vI:Value)(lI:List (Array Value))(il:List (List (Array Value)))(w:World)(hsl:Sl 1 vI lI (fun _=>False) w)(hG:ImgG lI il (fun _=>False) w)(hle:il.length<=10000000)(hl2: ∀l∈il,l.length<=10000000):
  Calls Tryz.prog 6 #[vI] w (FewR w):=by
 obtain⟨A1,c1,e1,hlc1,hcm1⟩:=hsl.len;rw[hG.1] at e1 hlc1;subst e1;have H1:=Lib.hid hsl;have H2:=Lib.hid hG;have HL2:=Lib.hid hl2;clear hsl hG hcm1 hl2;go_enter Tryz.func6,Tryz.ntmps6;go_wp2_with fail
 go_loopw [3] (fun i W=> ∃kk:Nat,kk<=il.length/\i= .int .i64 kk/\W=w) (fun i _=>il.length-(intOf i).toNat)
 case atStart=>exact⟨0,Nat.zero_le _,rfl,rfl⟩
 case round=>
  obtain⟨kk,hkk,rfl,rfl⟩:=hrel;by_cases hlt:kk<il.length
  ·obtain⟨l,hl⟩: ∃l,il[kk]? =some l:=⟨_,List.getElem?_eq_getElem hlt⟩
   obtain⟨r,hr⟩: ∃r,lI[kk]? =some r:=⟨_,List.getElem?_eq_getElem (by rw[H2.out.1];exact hlt)⟩;obtain⟨A2,c2,rfl,_⟩:=H2.out.2 kk r l hr hl;have hlle:=HL2.out l (List.mem_of_getElem? hl);obtain⟨b1,o1,eA,hb1,_,_,hcell⟩:=H1.out.row hr (by decide);subst eA;have e0:=hcell 0 _ rfl;simp only[Nat.mul_one,Nat.add_zero] at e0;have hki:(kk:Int)<il.length:=by omega
   have hkc:(kk:Int)<c1:=by omega
   clear hcell hr hl;by_cases h8:8<(l.length:Int)
   ·have d8:decide (8<(l.length:Int))=true:=decide_eq_true h8
    go_wp2_with fail;exact bodyPost_ret (zh rfl rfl) rfl ⟨_,rfl,Below.refl _ _⟩
   ·have d8:decide (8<(l.length:Int))=false:=decide_eq_false h8
    go_wp2_with fail
    go_roundw
    case rel=>exact⟨kk+1,by omega,by go_num,trivial⟩
    case measure=>simp[intOf];omega
  ·have hki:(il.length:Int)<=kk:=by omega
   go_wp2_with fail;exact bodyPost_ret (zh rfl rfl) rfl ⟨_,rfl,Below.refl _ _⟩
theorem elWin1:ElT 61 59 3 24:=jI Tryz.underlying59 (by kernel_rfl)
def rowP:Array Value:= #[.int .i64 64,.int .i64 1,.int .i64 1,.int .i64 1]
def rowW:Array Value:= #[.int .i64 0,.int .i64 0,.int .i64 10]
def pS(bP bW bV:Nat):Pn:=⟨.slice (some ⟨bP,0,none⟩) 1 1,[rowP],10,.slice (some ⟨bV,0,none⟩) 1 1,[#[.slice (some ⟨bW,0,none⟩) 1 1]],[[rowW]],.slice none 0 0,[],.slice none 0 0,[],[]⟩
theorem pS_ok(a b c:Nat):yv (pS a b c).fr (pS a b c).lP (pS a b c).wl (pS a b c).lC=0:=by
 show yv 10 [rowP] [[rowW]] []=0;decide+kernel
theorem pS_T(a b c:Nat):ZJ (pS a b c).lP (pS a b c).wl (pS a b c).lC:=by
 refine⟨?_,?_,(fun _ h=>by cases h),(by show 1<=2000000;decide),(by show 1<=2000000;decide),(by show 0<=2000000;decide),?_⟩
 ·intro r hr
  rw[List.mem_singleton.1 hr];exact⟨yY (by decide) (by decide),yY (by decide) (by decide),yY (by decide) (by decide),yY (by decide) (by decide),trivial⟩
 ·intro l hl r hr
  rw[List.mem_singleton.1 hl] at hr;rw[List.mem_singleton.1 hr];exact⟨yY (by decide) (by decide),yY (by decide) (by decide),yY (by decide) (by decide),trivial⟩
 ·intro l hl
  rw[List.mem_singleton.1 hl];decide
theorem pS_G{a b c:Nat}{W:World}(ha:Blk W a rowP 76)(hb:Blk W b rowW 61)(hc:Blk W c #[.slice (some ⟨b,0,none⟩) 1 1] 59):PnG (pS a b c) (fun _=>False) W:=by
 have h1:=qU ha rfl (Nat.le_refl 1) (by unfold maxLen;omega);have h2:=qU hb rfl (Nat.le_refl 1) (by unfold maxLen;omega);have h3:=qU hc rfl (Nat.le_refl 1) (by unfold maxLen;omega);refine⟨⟨h1,h3,⟨rfl,fun i r l hr hl=> ?_⟩,qz _ _ _⟩,qz _ _ _,rfl,fun i r l hr hl=>by cases hr⟩;cases i with
 |zero=>
  injection hr with hr;injection hl with hl;subst hr hl;exact⟨some ⟨b,0,none⟩,1,rfl,h2⟩
 |succ i=>cases hr
theorem shown_any(w:World)(hT:Tab w):Calls Tryz.prog 5 #[] w fun e w'=>e= .returned (.bool true)/\Below w.heap.size w w':=by
 have k:Hid (St (fun _=>False) (fun _=>False) w [] (fun _ _=>True) (fun _=>False) w):=St.begin (fun _ h=>h.elim) trivial xZ;have HT:=Lib.hid hT;clear hT;go_enter Tryz.func5,Tryz.ntmps5;go_wp2_with(first|((with_reducible refine qY ?_);first|(refine qp k elPart rfl rfl rfl rfl rfl (by decide) (by decide) ?_;clear k;intro bP X W k)|(refine qp k elWin1 rfl rfl rfl rfl rfl (by decide) (by decide) ?_;clear k;intro bW X W k)|(refine qp k elWin rfl rfl rfl rfl rfl (by decide) (by decide) ?_;clear k;intro bV X W k))|fail);replace k:Hid (St _ _ _ [(bV,#[.slice (some ⟨bW,0,none⟩) 1 1],_),(bW,rowW,_),(bP,rowP,_)] _ _ _):=k;have hPG:PnG (pS bP bW bV) (fun _=>False) W:=pS_G (k.out.blk (i:=2) rfl) (k.out.blk (i:=1) rfl) (k.out.blk (i:=0) rfl);have HB0:=Lib.hid k.out.end;have HT1:Hid (Tab W):=zj (jt HT.out k.out.only (fun h=>h));clear k HT;have k:Hid (St (fun _=>False) (fun _=>False) W [] (PnG (pS bP bW bV)) (fun _=>False) W):=St.begin (fun _ h=>h.elim) hPG (per_pn _);clear hPG;refine(hbegin_any (pS bP bW bV) _ _ k.out.lt k.out.fact (pS_T _ _ _) (fun _ h=>by cases h) (fun _ h=>by cases h) (by show(-9223372036854775808:Int)<=10;decide) (by show(10:Int)<=9223372036854775807;decide)).mono ?_;rintro e W1 (⟨hne,_,_⟩|⟨_,y,rfl,hG,hok,⟨hn0,_,_,hS0⟩,hb⟩)
 ·exact absurd (pS_ok _ _ _) hne
 have ho:=qw hG;have hsz:(SyC (pS bP bW bV) y).size=11:=rfl;replace k:=zj ((k.out.call hb).turn (fun _=>hG) (xp _ _ _));have OK:=Lib.hid hok;have HN0:=Lib.hid hn0;have HS0:=Lib.hid hS0;have HP:Hid (PnT (pS bP bW bV)):=⟨pS_T _ _ _,pS_ok _ _ _,(fun _ h=>by cases h),(fun _ h=>by cases h)⟩;clear hb hG hok hn0 hS0
 go_upto_region 2 with(first|((with_reducible refine zx ?_);refine soa k rfl rfl rfl .a0 (by with_reducible assumption) (by rfl) (by assumption) ?_;clear k;intro W k)|((with_reducible refine zf ?_);refine ala k Tryz.zeroValue36 ?_;clear k;intro b36 X W k))
 replace k:Hid (St _ _ _ [(b36,SyC (pS bP bW bV) y,_)] _ _ _):=k;go_wp2_with((with_reducible refine zz ?_);refine lda k rfl rfl .a0 (by with_reducible assumption) ?_);refine(hrun_any (pS bP bW bV) 0 0 10 y _ _ k.out.lt k.out.fact HP.out OK.out (by decide) (by decide) (jt HT1.out k.out.only (fun h=>h))).mono ?_;rintro e W2 ⟨y2,rfl,hG2,hok2,hst2,hb⟩;obtain⟨c1,c2,c3⟩:=hst2.count (l:=[rowW]) rfl (pS_ok _ _ _) HN0.out;have hl2:y2.S.length=1:=hok2.Sl;obtain⟨z2,hz2⟩: ∃z,y2.S[0]? =some z:=⟨_,List.getElem?_eq_getElem (by omega)⟩;obtain⟨z0,hz0,c4⟩:=c3 0 z2 hz2;have hB:=HS0.out 0 z0 hz0;have hid:=hB.idle rowP rfl rfl rfl;obtain⟨_,_,hnow⟩:=c4 rowP rfl rfl hid.1 hid.2;rw[hB.now] at hnow;have hcn:(cntT ((0:Nat):Int) (pS bP bW bV).fr [rowW] 10:Int)=8:=by
  show(cntT 0 10 [rowW] 10:Int)=8;decide+kernel
 rw[hcn] at hnow;have ho2:=qw hG2;have hsz2:(SyC (pS bP bW bV) y2).size=11:=rfl;replace k:=zj ((k.out.call hb).turn (fun _=>hG2) (xp _ _ _));clear hb hG2 hok2 hst2 c2 c3 c4 hz0 hB hid hcn;obtain⟨now,sched,next,vS,vA,own,S,A⟩:=y2;dsimp only at c1 hl2 hz2;obtain⟨A1,d1,e1,hlc1,_⟩:=k.out.fact.2.1.len;dsimp only at e1 hlc1;rw[List.length_map,hl2] at e1 hlc1;subst e1;subst c1;have hr0:(S.map seC)[0]? =some (seC z2):=by rw[List.getElem?_map,hz2];rfl
 have hj0:(seC z2)[7]? =some (.int .u64 8):=by show some (Value.int .u64 z2.x.now)=_;rw[hnow];rfl
 obtain⟨bs0,os0,eA,_⟩:=k.out.fact.2.1.row hr0 (by decide);subst eA;have HR:=Lib.hid hr0;have HJ:=Lib.hid hj0;clear hr0 hj0 hnow hz2 hl2
 go_upto_region 3 with(first|((with_reducible refine zx ?_);refine soa k rfl rfl rfl .a0 (by rfl) (by rfl) (by assumption) ?_;clear k;intro W k)|((with_reducible refine zf ?_);refine ala k Tryz.zeroValue36 ?_;clear k;intro b36 X W k))
 have HD:=zj k.out.fact.2.1;go_wp2_with(first|((with_reducible refine zz ?_);refine xX rfl rfl HD.out HR.out (by decide) 7 HJ.out rfl ⟨_,rfl,by first|rfl|omega⟩ (Tryz.isAgg32 _) ?_)|(first|((with_reducible refine zp ?_);first|refine zg rfl rfl rfl (by with_reducible rfl) ?_)|((with_reducible refine zz ?_);refine ld1 k rfl rfl .a0 (by rfl) ?_)));exact bodyPost_ret (zh rfl rfl) rfl ⟨rfl,HB0.out.trans (k.out.end.mono HB0.out.size)⟩
end
end Go.Proofs.YtaccidkgnkmagaaGreatDoor.Top
namespace Go.Proofs.YtaccidkgnkmagaaGreatDoor
section
open Go.ChangeShapes Go.WideShapes Go.ChangeAt Go.RowKit Go.Joins
theorem own:ownKnob Tryz.prog.godebug=none:=by kernel_rfl
theorem laidOut:laidOutB Tryz.prog=true:=by kernel_rfl
section
variable{H:Type}{enc:TypeId×Value->H}{P:Program}
theorem trodAll_below(hl:laidOutB P=true){W W':World}(hb:Below W.heap.size W W'): ∀{ts:List TypeId} {vs:List Value} {ds:List (DataW H)} {ps:List MemPlace},
  (ts.all fun t=>P.readableRec t&&decide (t<P.types.size))=true->DataW.TrodAll enc P W 0 (fun _=>true) true ts vs ds ps->(∀x∈ps,x.block<W.heap.size)->
  DataW.TrodAll enc P W' 0 (fun b=>decide (b<W.heap.size)) true ts vs ds ps:=by
 intro ts;induction ts with
 |nil=>
  intro vs ds ps _ h _;obtain⟨rfl,rfl,rfl⟩:=trodAll_nil h;exact trodAll_mk0
 |cons t ts ih=>
  intro vs ds ps hr h hlt;obtain⟨v,vs',d,ds',p,q,rfl,rfl,rfl,h0,r0⟩:=trodAll_cons h;simp only[List.all_cons,Bool.and_eq_true,decide_eq_true_eq] at hr;exact trodAll_cons_mk (Below.trod hl hr.1.1 hr.1.2 h0 hb (fun x hx=>hlt x (by simp[hx]))) (ih hr.2 r0 (fun x hx=>hlt x (by simp[hx])))
theorem law_post{fn:Func}{s:ChangeSpec}{W W':World}{args:Array Value}{ds gs:List (DataW H)}{before:List MemPlace}{tb:TypeId}
  (hl:laidOutB P=true) (hr:(fn.params.toList.all fun t=>P.readableRec t&&decide (t<P.types.size))=true) (ht:P.underlying tb=some .bool) (hrt:fn.resultTypes= #[tb]) (hv:s.vars=[])
  (hW:DataW.Whole enc P fn.params.toList s.vars false W args.toList ds gs before) (hs:s.fn H (ds++gs)={results:=[.lit (.bool true)],args:=ds}) (hb:Below W.heap.size W W'):
  s.post enc P fn false true false false W args (.bool true) W':=by
 have hlt: ∀p∈before,p.block<W.heap.size:=fun p hp=>hW.lt p hp;have hW':=hW;obtain⟨p,q,hA,hV,rfl,hz,hn⟩:=hW;refine⟨ds,gs,p++q,[],p,[],hW',?_,?_,?_,World.keptBut_mono (fun _ h=>False.elim h) (hb.frame (fun _=>False)),fun h=>by cases h⟩
 ·rw[hs,hrt]
  exact trodAll_mk1 (shut_bool ht true)
 ·rw[hs]
  exact trodAll_below hl hb hr hA (fun x hx=>hlt x (by simp[hx]))
 ·rw[hs,hv]
  exact rfl
end
end
theorem bulk_pos{H:Type}(d:DataW H):1<=Rows.uptoBulk d:=by
 cases d with
 |lit l=>cases l<;>simp[Rows.uptoBulk]
 |_=>simp[Rows.uptoBulk]
theorem bulk_length{H:Type}(l:List (DataW H)):l.length<=Rows.uptoBulkAll l:=by
 induction l with
 |nil=>simp
 |cons x r ih=>have:=bulk_pos x;simp only[Rows.uptoBulkAll,List.length_cons];omega
theorem bulk_slice{H:Type}(elems spare:List (DataW H)):elems.length+spare.length+1<=Rows.uptoBulk (.slice elems spare):=by
 have h1:=bulk_length elems;have h2:=bulk_length spare;simp only[Rows.uptoBulk];omega
theorem bulk_all{H:Type}{l:List (DataW H)}(h:Rows.uptoSmall H l=true):Rows.uptoBulkAll l<=1048576:=of_decide_eq_true h
theorem bulk_one{H:Type}{d:DataW H}(h:Rows.uptoSmall H ([d]++ [])=true):Rows.uptoBulk d<=1048576:=by
 have:=bulk_all h;simp only[List.append_nil,Rows.uptoBulkAll] at this;omega
end Go.Proofs.YtaccidkgnkmagaaGreatDoor
