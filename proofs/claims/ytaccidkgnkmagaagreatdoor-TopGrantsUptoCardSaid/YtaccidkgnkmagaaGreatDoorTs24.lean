/-
  Walks and laws of the whole machine: To, Sys, Sends, HCyc, Win. Conditions: each theorem names its own.
-/
import Derived.Test.YtaccidkgnkmagaaGreatDoorTs22
import Derived.Test.YtaccidkgnkmagaaGreatDoorTs23
set_option maxRecDepth 16000
set_option maxHeartbeats 12800000
set_option linter.unusedVariables false
set_option linter.unusedSimpArgs false
namespace Go.Proofs.YtaccidkgnkmagaaGreatDoor.Top
open Go.RowKit
def ToR(lC:List (Array Value))(w:World)(e:Ending)(w':World):Prop:=
 ∃(a b:Int) (is:Bool),e= .returned (.tuple #[.agg #[.int .i64 a,.int .i64 b],.bool is])/\(is=true-> ∃r∈lC,a=zQ r 2)/\Below w.heap.size w w'
theorem rto_any(vP:Value)(fr:Int)(vW vC:Value)(lC:List (Array Value))(part port:Int)(X0:Nat->Prop)(w:World)(hX: ∀b,X0 b->b<w.heap.size)(hsl:Sl 5 vC lC X0 w)(hT: ∀r∈lC,Ty gx r)(hle:lC.length<=1000000)(hp1:port<=9223372036854775807):
  Calls Tryz.prog 58 #[.agg (PLC vP fr vW vC),.int .i64 part,.int .i64 port] w (ToR lC w):=by
 obtain⟨A,c,rfl,hlc,hcm⟩:=hsl.len;unfold maxLen at hcm;have k:Hid (St (fun _=>False) X0 w [] (Sl 5 (.slice A lC.length c) lC) X0 w):=St.begin hX hsl (zb _ _ _);have HT:=Lib.hid hT;clear hsl hT;by_cases hneg:port<0
 ·have d0:decide (port<0)=true:=decide_eq_true hneg
  go_enter Tryz.func58,Tryz.ntmps58;go_wp2_with(first|((with_reducible refine zx ?_);refine soa k rfl rfl rfl .a0 (by rfl) (by rfl) (zm rfl) ?_;clear k;intro W k)|((with_reducible refine zI ?_);refine bxa k (T:=26) rfl ?_;clear k;intro c26 X W k)|((with_reducible refine zf ?_);refine ala k Tryz.zeroValue139 ?_;clear k;intro b139 X W k));exact bodyPost_ret (yh rfl _ rfl rfl (yx k.out 0 rfl 139 rfl rfl)) rfl ⟨0,0,false,rfl,(fun h=>by cases h),k.out.end⟩
 ·have d0:decide (port<0)=false:=decide_eq_false hneg
  go_enter Tryz.func58,Tryz.ntmps58;go_wp2_with(first|((with_reducible refine zz ?_);refine ld1 k rfl rfl .a1 (by rfl) ?_)|((with_reducible refine zI ?_);refine bxa k (T:=26) rfl ?_;clear k;intro c26 X W k)|((with_reducible refine zf ?_);refine ala k Tryz.zeroValue139 ?_;clear k;intro b139 X W k));replace k:Hid (St _ _ _ [(b139,#[.int .i64 0,.int .i64 0],_),(c26,PLC vP fr vW (.slice A lC.length c),_)] _ _ _):=k
  go_loopw [2,16] (fun q i W=> ∃(qq:Int) (kk:Nat),0<=qq/\qq<=9223372036854775807/\kk<=lC.length/\q= .int .i64 qq/\i= .int .i64 kk/\Hid (Stay (fun _=>False) X0 w [(b139,#[.int .i64 0,.int .i64 0],139),(c26,PLC vP fr vW (.slice A lC.length c),26)] (Sl 5 (.slice A lC.length c) lC) W)) (fun _ i _=>lC.length-(intOf i).toNat)
  case atStart=>exact⟨port,0,by omega,hp1,Nat.zero_le _,rfl,rfl,zj ⟨_,k.out⟩⟩
  case round=>
   obtain⟨qq,kk,hq0,hq1,hkk,rfl,rfl,hS⟩:=hrel;obtain⟨X,kS⟩:=hS.out;clear k hS;have k:=zj kS;clear kS;by_cases hlt:kk<lC.length
   ·obtain⟨r,hr⟩: ∃r,lC[kk]? =some r:=⟨_,List.getElem?_eq_getElem hlt⟩
    have hrt:=HT.out r (List.mem_of_getElem? hr);obtain⟨bd,od,eA,_⟩:=k.out.fact.row hr (by decide);have HD:=zj k.out.fact;have HRW:=Lib.hid hr;have HEA:=Lib.hid eA;subst eA;clear hr HEA;have hki:(kk:Int)<lC.length:=by omega
    have hkc:(kk:Int)<=c:=by omega
    have hrs:r.size=5:=hrt.size;have hro:=hrt.one;have e1:r.toList[1]? =some (.int .i64 (zQ r 1)):=by rw[Array.getElem?_toList];exact xq hrt 1 rfl
    have e2:r.toList[2]? =some (.int .i64 (zQ r 2)):=by rw[Array.getElem?_toList];exact xq hrt 2 rfl
    clear hrt
    go_upto_region 7 with(first|((with_reducible refine zz ?_);refine xV rfl rfl HD.out HRW.out (by decide) rfl ⟨_,rfl,rfl⟩ (Tryz.isAgg87 _) (Tryz.sizeOf87 _) ?_)|(first|((with_reducible refine zz ?_);refine ld1 k rfl rfl .a1 (by rfl) ?_)|((with_reducible refine zx ?_);refine soa k rfl rfl rfl .a0 (by with_reducible assumption) (by rfl) (by assumption) ?_;clear k;intro W k)|((with_reducible refine zf ?_);refine ala k Tryz.zeroValue87 ?_;clear k;intro b87 X W k)))
    clear HD;replace k:Hid (St _ _ _ [(b87,r,_),(b139,#[.int .i64 0,.int .i64 0],_),(c26,PLC vP fr vW (.slice (some ⟨bd,od,none⟩) lC.length c),_)] _ _ _):=k;by_cases hpt:zQ r 1=part
    ·have dp:(zQ r 1==part)=true:=by rw[beq_iff_eq];exact hpt
     have HPT:=Lib.hid hpt;clear hpt;by_cases hq:qq=0
     ·subst hq
      go_upto_region 9 with((with_reducible refine zz ?_);refine ld1 k rfl rfl .a0 (by with_reducible assumption) ?_)
      have HPer:=Lib.hid k.out.per;refine zt k 12 14 (by kernel_rfl) rfl ?_;clear k;intro W k;refine zq [(0,some 30,[12]),(1,some 31,[12]),(2,some 32,[12]),(3,some 33,[12]),(4,some 34,[12]),(5,some 35,[12]),(6,some 36,[12]),(7,some 37,[12]),(8,some 38,[12])] [?v1_0,?v1_1,?v1_2,?v1_3,?v1_4,?v1_5,?v1_6,?v1_7,?v1_8] 5 (by kernel_rfl) ⟨_,k.out⟩ ?l1 ?h1;case l1=>
       intro w' hSw;iterate 9
        refine lkw rfl rfl (by rfl) ?_ ?_
        ·first|((with_reducible refine yw ?_);first|exact hSw.l1 rfl rfl (by repeat constructor) (by first|with_reducible assumption|rfl))|(go_simp<;>with_reducible rfl)
        try simp only[Act.put,tS,t0,t1]
       trivial
      simp only[zw,zk,Act.put,tS,t0,t1];refine w1 9 4 (by kernel_rfl) rfl ?_;go_wp2_with fail;have hup:=k.out.fact.upto (i:=kk) (by omega);refine(rins_any (.slice none 0 0) 0 (.slice none 0 0) _ (lC.take kk) (zQ r 2) _ _ k.out.lt hup (fun r hr=>HT.out r (List.mem_of_mem_take hr)) (by simp;omega)).mono ?_;rintro e W1 ⟨v1,rfl,hsl1,hb⟩;obtain⟨A3,c3,rfl,_,_⟩:=hsl1.len;replace k:=zj (k.out.call hb);clear hb hsl1 hup;go_wp2_with fail;refine zd (yz ⟨_,k.out⟩) ?_;refine zq [(10,some 40,[12]),(11,some 41,[12])] [?v2_10,?v2_11] 2 (by kernel_rfl) ⟨_,k.out⟩ ?l2 ?h2;case l2=>
       intro w' hSw;iterate 2
        refine lkw rfl rfl (by rfl) ?_ ?_
        ·go_simp<;>with_reducible rfl
        try simp only[Act.put,tS,t0,t1]
       trivial
      simp only[zw,zk,Act.put,tS,t0,t1];refine w1 12 1 (by kernel_rfl) rfl ?_;go_wp2_with((with_reducible refine zx ?_);refine soa k rfl rfl rfl .a1 rfl rfl (zm rfl) ?_;clear k;intro W k);refine zd (zJ rfl) ?_;refine zU [(13,some 7,[])] [?v3_13] 0 (by kernel_rfl) (.inr (by kernel_rfl)) ?l3 ?h3;case l3=>
       intro w';refine lkw rfl rfl (by rfl) ?_ ?_
       ·go_simp<;>with_reducible rfl
       try simp only[Act.put,tS,t0,t1]
       trivial
      simp only[zw,zk,Act.put,tS,t0,t1];refine zv (by kernel_rfl) ?_ _;clear HPer;go_wp2_with fail;exact bodyPost_ret (yh rfl _ rfl rfl (yx k.out 1 rfl 139 rfl rfl)) rfl ⟨_,_,true,rfl,(fun _=>⟨r,List.mem_of_getElem? HRW.out,rfl⟩),k.out.end⟩
     ·have dq:(qq==0)=false:=by rw[beq_eq_false_iff_ne];exact hq
      have nq: ¬(qq=0):=hq;have hw1:IntKind.i64.wrap (qq-1)=qq-1:=xg (by omega) (by omega);go_wp2_with((with_reducible refine zz ?_);refine ld1 k rfl rfl .a0 (by with_reducible assumption) ?_)
      go_roundw
      case rel=>exact⟨qq-1,kk+1,by omega,by omega,by omega,rfl,by go_num,zj ⟨_,k.out.drop (n:=1)⟩⟩
      case measure=>simp[intOf];omega
    ·have dp:(zQ r 1==part)=false:=by rw[beq_eq_false_iff_ne];exact hpt
     have np: ¬(zQ r 1=part):=hpt;clear hpt;go_wp2_with((with_reducible refine zz ?_);refine ld1 k rfl rfl .a0 (by with_reducible assumption) ?_)
     go_roundw
     case rel=>exact⟨qq,kk+1,hq0,hq1,by omega,rfl,by go_num,zj ⟨_,k.out.drop (n:=1)⟩⟩
     case measure=>simp[intOf];omega
   ·have hki:(lC.length:Int)<=kk:=by omega
    go_wp2_with((with_reducible refine zx ?_);refine soa k rfl rfl rfl .a0 (by rfl) (by rfl) (zm rfl) ?_;clear k;intro W k);exact bodyPost_ret (yh rfl _ rfl rfl (yx k.out 0 rfl 139 rfl rfl)) rfl ⟨0,0,false,rfl,(fun h=>by cases h),k.out.end⟩
structure Pn where
 vP:Value
 lP:List (Array Value)
 fr:Int
 vW:Value
 lW:List (Array Value)
 wl:List (List (Array Value))
 vC:Value
 lC:List (Array Value)
 vI:Value
 lI:List (Array Value)
 il:List (List (Array Value))
def ImgG(lI:List (Array Value))(il:List (List (Array Value)))(X:Nat->Prop)(W:World):Prop:=
 lI.length=il.length/\ ∀i:Nat,∀r:Array Value,∀l:List (Array Value),lI[i]? =some r->il[i]? =some l-> ∃A:Option Addr,∃c:Nat,(r= #[.slice A l.length c])/\Sl 1 (.slice A l.length c) l X W
theorem per_img(lI:List (Array Value))(il:List (List (Array Value))):Per (ImgG lI il):=
 (Zh _).and (Per.all fun _=>Per.all fun _=>Per.all fun _=>Per.imp (Per.imp (Per.ex fun _=>Per.ex fun _=>(Zh _).and (zb _ _ _))))
def PnG(p:Pn)(X:Nat->Prop)(W:World):Prop:=vw p.vP p.lP p.vW p.lW p.wl p.vC p.lC X W/\Sl 1 p.vI p.lI X W/\ImgG p.lI p.il X W
theorem per_pn(p:Pn):Per (PnG p):=(gV _ _ _ _ _ _ _).and ((zb _ _ _).and (per_img _ _))
structure PnT (p:Pn):Prop where
 T:ZJ p.lP p.wl p.lC
 ok:yv p.fr p.lP p.wl p.lC=0
 img: ∀l∈p.il,∀r∈l,∃t:ByteArray,r= #[.string t]
 iml: ∀l∈p.il,l.length<=10000000
theorem vx{fr:Int}{lP:List (Array Value)}{wl:List (List (Array Value))}{lC:List (Array Value)}(h:yv fr lP wl lC=0):
  lP.length<=4/\wl.length<=3/\lC.length<=6/\1<=lP.length/\1<=wl.length/\1<=fr/\fr<=4096/\jY lP.length fr wl=0/\ ∀r∈lC,qI lP.length r=true:=by
 unfold yv at h;split at h
 ·cases h
 ·rename_i h1
  split at h
  ·cases h
  ·rename_i h2
   split at h
   ·cases h
   ·rename_i h3
    split at h
    ·contradiction
    ·rename_i h4
     split at h
     ·cases h
     ·rename_i h5
      have hc: ∀r∈lC,qI lP.length r=true:=by
       intro r hr;cases hb:qI lP.length r with
       |true=>rfl
       |false=>exact absurd (List.any_eq_true.2 ⟨r,hr,by rw[hb];rfl⟩) h5
      refine⟨?_,?_,?_,?_,?_,?_,?_,by simpa using h4,hc⟩
      ·exact Nat.not_lt.1 fun x=>h1 (.inl x)
      ·exact Nat.not_lt.1 fun x=>h1 (.inr (.inl x))
      ·exact Nat.not_lt.1 fun x=>h1 (.inr (.inr (.inl x)))
      ·exact Nat.pos_of_ne_zero fun x=>h2 (.inl x)
      ·exact Nat.pos_of_ne_zero fun x=>h2 (.inr x)
      ·exact Int.not_lt.1 fun x=>h3 (.inr (.inl x))
      ·exact Int.not_lt.1 fun x=>h3 (.inr (.inr x))
theorem chan_part{np:Nat}{r:Array Value}(h:qI np r=true):0<=zQ r 1/\zQ r 1<np/\0<=zQ r 2/\zQ r 2<np/\zQ r 4<=8:=by
 unfold qI qv at h;have:=of_decide_eq_true h;omega
structure Se where
 x:Kn
 st:Int
 bo:Int
def seC(z:Se):Array Value:=SC z.x z.st z.bo
structure Sy where
 now:Int
 sched:Int
 next:Int
 vS:Value
 vA:Value
 own:Int
 S:List Se
 A:List (Array Value)
def SyC(p:Pn)(y:Sy):Array Value:= #[p.vP,.int .i64 p.fr,p.vW,p.vC,p.vI,.int .u64 y.now,.int .i64 y.sched,.int .i64 y.next,y.vS,y.vA,.int .i64 y.own]
def ArrOk(m:Nat)(r:Array Value)(X:Nat->Prop)(W:World):Prop:=
 ∃(v:Value) (l:List (Array Value)),(r= #[v]/\l.length<=m/\ ∀q∈l,yZ q)/\Sl 3 v l X W
theorem per_arr(m:Nat)(r:Array Value):Per (ArrOk m r):=Per.ex fun _=>Per.ex fun _=>(Zh _).and (zb _ _ _)
theorem ArrOk.mono{m m':Nat}{r:Array Value}{X:Nat->Prop}{W:World}(h:ArrOk m r X W)(hm:m<=m'):ArrOk m' r X W:=by
 obtain⟨v,l,⟨e,hl,h1⟩,hs⟩:=h;exact⟨v,l,⟨e,Nat.le_trans hl hm,h1⟩,hs⟩
def SyG(p:Pn)(m:Nat)(y:Sy)(X:Nat->Prop)(W:World):Prop:=
 PnG p X W/\Sl 19 y.vS (y.S.map seC) X W/\(∀z,z∈y.S->KSl z.x X W)/\Sl 1 y.vA y.A X W/\ ∀r,r∈y.A->ArrOk m r X W
theorem xp(p:Pn)(m:Nat)(y:Sy):Per (SyG p m y):=
 (per_pn p).and ((zb _ _ _).and ((Per.all fun z:Se=>Per.imp (zO z.x)).and ((zb _ _ _).and (Per.all fun r=>Per.imp (per_arr m r)))))
theorem SyG.mono{p:Pn}{m m':Nat}{y:Sy}{X:Nat->Prop}{W:World}(h:SyG p m y X W)(hm:m<=m'):SyG p m' y X W:=
 ⟨h.1,h.2.1,h.2.2.1,h.2.2.2.1,fun r hr=>(h.2.2.2.2 r hr).mono hm⟩
def nB(s:Nat):Nat:=4+s*s+22*s
theorem nB_step(s:Nat):nB s+2*s+23=nB (s+1):=by
 unfold nB;rw[Nat.add_mul,Nat.mul_add];omega
theorem nB_le{s:Nat}(h:s<=700):nB s+2*s+40<=1000000:=by
 unfold nB;have:s*s<=700*700:=Nat.mul_le_mul h h;omega
structure SeOk (p:Pn) (s:Nat) (i:Nat) (z:Se):Prop where
 ok:KOk (nB s) s 8 z.x
 tr: ∀r∈z.x.Tr,atOf r<z.x.now
 ins:z.x.Is.length=(p.lC.filter fun r=>zQ r 2==(i:Int)).length
 im:z.x.Im.length<=10000000
 bo:1<=z.bo/\z.bo<=s+2
 st:z.st=1\/z.st=2\/z.st=3
 now:z.x.now<=s
theorem nB_mono{s s':Nat}(h:s<=s'):nB s<=nB s':=by
 unfold nB;have:s*s<=s'*s':=Nat.mul_le_mul h h;omega
theorem SeOk.mono{p:Pn}{s s' i:Nat}{z:Se}(h:SeOk p s i z)(hs:s<=s'):SeOk p s' i z:=
 ⟨h.ok.mono (nB_mono hs) hs (Nat.le_refl _),h.tr,h.ins,h.im,⟨h.bo.1,by have:=h.bo.2;omega⟩,h.st,by have:=h.now;omega⟩
structure SyOk (p:Pn) (s:Nat) (y:Sy):Prop where
 Sl:y.S.length=p.lP.length
 Al:y.A.length=p.lP.length
 seat: ∀i z,y.S[i]? =some z->SeOk p s i z
 now:0<=y.now/\y.now<=s
 one:p.wl.length=1->y.sched=0/\y.next=0
theorem SyOk.mono{p:Pn}{s s':Nat}{y:Sy}(h:SyOk p s y)(hs:s<=s'):SyOk p s' y:=
 ⟨h.Sl,h.Al,fun i z hz=>(h.seat i z hz).mono hs,⟨h.now.1,by have:=h.now.2;omega⟩,h.one⟩
def Near(z z':Se):Prop:=z'.st=z.st/\z'.bo=z.bo/\ ∃(v:Value) (l:List (Array Value)),z'.x={z.x with vBx:=v,Bx:=l}
theorem Near.refl(z:Se):Near z z:=⟨rfl,rfl,z.x.vBx,z.x.Bx,rfl⟩
theorem Near.trans{a b c:Se}(h:Near a b)(k:Near b c):Near a c:=by
 obtain⟨h1,h2,v,l,h3⟩:=h;obtain⟨k1,k2,v',l',k3⟩:=k;exact⟨k1.trans h1,k2.trans h2,v',l',by rw[k3,h3]⟩
def NearS(S S':List Se):Prop:=S'.length=S.length/\ ∀(i:Nat) (z':Se),S'[i]? =some z'-> ∃z:Se,S[i]? =some z/\Near z z'
theorem NearS.refl(S:List Se):NearS S S:=⟨rfl,fun _ z h=>⟨z,h,.refl z⟩⟩
theorem NearS.trans{a b c:List Se}(h:NearS a b)(k:NearS b c):NearS a c:=by
 refine⟨k.1.trans h.1,fun i z hz=> ?_⟩;obtain⟨z1,h1,n1⟩:=k.2 i z hz;obtain⟨z2,h2,n2⟩:=h.2 i z1 h1;exact⟨z2,h2,n2.trans n1⟩
theorem NearS.set{S:List Se}{j:Nat}{z z':Se}(hz:S[j]? =some z)(hn:Near z z'):NearS S (S.set j z'):=by
 refine⟨by simp,fun i z2 h2=> ?_⟩;rw[List.getElem?_set] at h2;split at h2
 ·rename_i e
  subst e;split at h2
  ·injection h2 with h2
   subst h2;exact⟨z,hz,hn⟩
  ·cases h2
 ·exact⟨z2,h2,.refl _⟩
theorem SyOk.set{p:Pn}{s:Nat}{y:Sy}{j:Nat}{z':Se}{v:Value}(h:SyOk p s y)(hz:SeOk p s j z'):SyOk p s {y with vS:=v,S:=y.S.set j z'}:=by
 refine⟨by simpa using h.Sl,h.Al,fun i z hi0=> ?_,h.now,h.one⟩;have hi:(y.S.set j z')[i]? =some z:=hi0;clear hi0;rw[List.getElem?_set] at hi;split at hi
 ·rename_i e
  subst e;split at hi
  ·injection hi with hi
   subst hi;exact hz
  ·cases hi
 ·exact h.seat i z hi
theorem SyG.setS{p:Pn}{m:Nat}{y:Sy}{j:Nat}{z':Se}{v:Value}{X:Nat->Prop}{W:World}(h:SyG p m y X W)(hv:Sl 19 v ((y.S.map seC).set j (seC z')) X W)(hz:KSl z'.x X W):SyG p m {y with vS:=v,S:=y.S.set j z'} X W:=by
 refine⟨h.1,by rw[List.map_set];exact hv,fun z hm=> ?_,h.2.2.2⟩;rcases List.mem_or_eq_of_mem_set hm with hm|rfl
 ·exact h.2.2.1 z hm
 ·exact hz
theorem SyG.setA{p:Pn}{m m':Nat}{y:Sy}{j:Nat}{u v:Value}{X:Nat->Prop}{W:World}(h:SyG p m y X W)(hm:m<=m')(hv:Sl 1 v (y.A.set j #[u]) X W)(hu:ArrOk m' #[u] X W):SyG p m' {y with vA:=v,A:=y.A.set j #[u]} X W:=by
 refine⟨h.1,h.2.1,h.2.2.1,hv,fun r hr=> ?_⟩;rcases List.mem_or_eq_of_mem_set hr with hr|rfl
 ·exact(h.2.2.2.2 r hr).mono hm
 ·exact hu
theorem seC_one{p:Pn}{m:Nat}{y:Sy}{X:Nat->Prop}{W:World}(h:SyG p m y X W): ∀r∈y.S.map seC,yZ r:=by
 intro r hr;obtain⟨z,hz,rfl⟩:=List.mem_map.1 hr;exact Zb (h.2.2.1 z hz) z.st z.bo
theorem arr_one{p:Pn}{m:Nat}{y:Sy}{X:Nat->Prop}{W:World}(h:SyG p m y X W): ∀r∈y.A,yZ r:=by
 intro r hr;obtain⟨v,l,⟨rfl,_,_⟩,hs⟩:=h.2.2.2.2 r hr;exact zm (by simp[hs.one])
theorem qw{p:Pn}{m:Nat}{y:Sy}{X:Nat->Prop}{W:World}(h:SyG p m y X W):yZ (SyC p y):=by
 intro v hv;simp only[SyC,List.mem_cons,List.not_mem_nil,or_false] at hv;rcases hv with rfl|rfl|rfl|rfl|rfl|rfl|rfl|rfl|rfl|rfl|rfl
 ·exact h.1.1.1.one
 ·rfl
 ·exact h.1.1.2.1.one
 ·exact h.1.1.2.2.2.one
 ·exact h.1.2.1.one
 ·rfl
 ·rfl
 ·rfl
 ·exact h.2.1.one
 ·exact h.2.2.2.1.one
 ·rfl
def Turn(y y':Sy):Prop:=y'.now=y.now/\y'.sched=y.sched/\y'.next=y.next/\y'.own=y.own/\NearS y.S y'.S
def zSy:Array Value:= #[.slice none 0 0,.int .i64 0,.slice none 0 0,.slice none 0 0,.slice none 0 0,.int .u64 0,.int .i64 0,.int .i64 0,.slice none 0 0,.slice none 0 0,.int .i64 0]
section
variable{ops:Array Oper}{rest:List Oper}{o:Oper}{a:Act}{Q:Exit->Act->World->Prop}{w:World}
theorem xX(hgd:o.guard=none){s:Operand}{T:TypeId}(ho:o.op= .load T s){size n c:Nat}{A:Option Addr}{l:List (Array Value)}{Y:Nat->Prop}(hl:Sl size (.slice A n c) l Y w){i:Nat}{r:Array Value}(hr:l[i]? =some r)(h0:0<size)(j:Nat){v:Value}(hj:r[j]? =some v)
  {b off:Nat} (hs:ev a s=some (.pointer (some ⟨b,off,none⟩))) (hb: ∃o',A=some ⟨b,o',none⟩/\off=o'+i*size+j) (hagg:(isAgg T).run Tryz.prog w= .ok false w)
  (h:wpList Tryz.prog ops Q rest (a.put o.dst v) w):wpList Tryz.prog ops Q (o::rest) a w:=by
 obtain⟨b',o'',e1,_,_,hrs,hc⟩:=hl.row hr h0;obtain⟨o',e2,rfl⟩:=hb;rw[e1] at e2;injection e2 with e2;injection e2 with e3 e4;subst e3 e4;have h1:=hc j v hj;refine wpList_plain hgd fun K hK=> ?_;have hrun:(Instr.loadAt T (.pointer (some ⟨b',o''+i*size+j,none⟩))).run Tryz.prog w= .ok v w:=by
  simp[Instr.loadAt,Instr.sureAddr,loadVar,hagg,h1]
 unfold Oper.wp execOp;simp only[ho,(xO hs),hrun,Sem.run_bind,Sem.run_pure,Result.andThen_ok];exact hK _ _ h
end
theorem sl_cell1{P:Program}{n c b o:Nat}{l:List (Array Value)}{X:Nat->Prop}{W:World}(h:Sl 1 (.slice (some ⟨b,o,none⟩) n c) l X W){i:Nat}{v:Value}(hr:l[i]? =some #[v]){T:TypeId}(hagg:(isAgg T).run P W= .ok false W):
  (loadVar T ⟨b,o+i,none⟩).run P W= .ok v W:=by
 have:=ql h hr (by decide) (j:=0) rfl hagg;simpa using this
theorem out_lit{r:Array Value}(h:Ty kOut r): ∃(q:Int) (b:ByteArray),r= #[.int .i64 q,.string b]/\b.size<=64/\(-9223372036854775808<=q/\q<=9223372036854775807):=by
 obtain⟨l⟩:=r;have h0:TyL kOut l:=h;unfold kOut at h0;obtain⟨_,l0,rfl,⟨q,rfl,hq⟩,h1⟩:=yq h0;obtain⟨_,l1,rfl,⟨b,rfl,hb⟩,h2⟩:=yq h1;obtain rfl:=gE h2;exact⟨q,b,rfl,hb,hq⟩
def stC(t b:Int)(s:ByteArray):Array Value:= #[.int .u64 t,.int .i64 b,.string s]
def SendsR(p:Pn)(s m:Nat)(y:Sy)(X:Nat->Prop)(w:World)(e:Ending)(w':World):Prop:=
 ∃y',e= .returned (.agg (SyC p y'))/\SyG p m y' X w' /\SyOk p s y' /\Turn y y' /\Below w.heap.size w w'
theorem hsends_any(p:Pn)(s m:Nat)(y:Sy)(who:Nat)(X0:Nat->Prop)(w:World)(hX: ∀b,X0 b->b<w.heap.size)(hG:SyG p m y X0 w)(hP:PnT p)(hok:SyOk p s y)(hm:m<=100000)(hwho:who<y.S.length):
  Calls Tryz.prog 43 #[.agg (SyC p y),.int .i64 who] w (SendsR p s (m+8) y X0 w):=by
 obtain⟨now,sched,next,vS,vA,own,S,A⟩:=y;obtain⟨A1,c1,e1,hlc1,hcm1⟩:=hG.2.1.len;dsimp only at e1 hlc1 hwho;rw[List.length_map] at e1 hlc1;subst e1;unfold maxLen at hcm1;obtain⟨z0,hz0⟩: ∃z,S[who]? =some z:=⟨_,List.getElem?_eq_getElem hwho⟩;have hSe:=(hG.2.2.1 z0 (List.mem_of_getElem? hz0)).Se;obtain⟨A2,c2,e2,hlc2,hcm2⟩:=hSe.len;unfold maxLen at hcm2;have hr0:(S.map seC)[who]? =some (seC z0):=by rw[List.getElem?_map,hz0];rfl
 have hj0:(seC z0)[14]? =some (.slice A2 z0.x.Se.length c2):=by rw[<-e2];rfl
 rw[e2] at hSe;have hsl:=(hok.seat who z0 hz0).ok.Sel;have hst:=(hok.seat who z0 hz0).ok.Se;obtain⟨lS,hlS⟩: ∃l,z0.x.Se=l:=⟨_,rfl⟩;rw[hlS] at hSe hj0 hsl hst hlc2;clear hlS e2;obtain⟨bs0,os0,eA1,_⟩:=hG.2.1.row hr0 (by decide);subst eA1;have k:Hid (St (fun _=>False) X0 w [] (fun X W=>SyG p m ⟨now,sched,next,.slice (some ⟨bs0,os0,none⟩) S.length c1,vA,own,S,A⟩ X W/\Sl 2 (.slice A2 lS.length c2) lS X W) X0 w):=St.begin hX ⟨hG,hSe⟩ ((xp _ _ _).and (zb _ _ _));have HP:=Lib.hid hP;have OK:=Lib.hid hok;have HR:=Lib.hid hr0;have HJ:=Lib.hid hj0;have HST:=Lib.hid hst;have hki:(who:Int)<S.length:=by omega
 have hkc:(who:Int)<c1:=by omega
 have hy1:=Lib.hid (qw hG);clear hG hP hok hr0 hj0 hst hSe hz0 hwho;go_enter Tryz.func43,Tryz.ntmps43
 go_upto_region 1 with(first|((with_reducible refine zI ?_);refine bxa k (T:=36) rfl ?_;clear k;intro c36 X W k)|((with_reducible refine zf ?_);refine ala k Tryz.zeroValue36 ?_;clear k;intro b36 X W k))
 replace k:Hid (St _ _ _ [(b36,zSy,_),(c36,_,_)] _ _ _):=k;have HD:=zj k.out.fact.1.2.1;go_wp2_with(first|((with_reducible refine zz ?_);refine xX rfl rfl HD.out HR.out (by decide) 14 HJ.out rfl ⟨_,rfl,by first|rfl|omega⟩ (Tryz.isAgg54 _) ?_)|((with_reducible refine zz ?_);refine ld1 k rfl rfl .a1 (by rfl) ?_));clear HD HR HJ hki hkc
 go_loopw [18] (fun i W=> ∃(kk:Nat) (y':Sy),kk<=lS.length/\i= .int .i64 kk/\Hid (SyOk p s y')/\Hid (Turn ⟨now,sched,next,.slice (some ⟨bs0,os0,none⟩) S.length c1,vA,own,S,A⟩ y')/\Hid (Stay (fun _=>False) X0 w [(b36,zSy,36),(c36,SyC p y',36)] (fun X W=>SyG p (m+kk) y' X W/\Sl 2 (.slice A2 lS.length c2) lS X W) W)) (fun i _=>lS.length-(intOf i).toNat)
 case atStart=>exact⟨0,_,Nat.zero_le _,rfl,OK,zj ⟨rfl,rfl,rfl,rfl,NearS.refl _⟩,zj ⟨_,k.out⟩⟩
 case round=>
  obtain⟨kk,y',hkk,rfl,hOK,hTu,hS⟩:=hrel;obtain⟨X,kS⟩:=hS.out;clear k hS;have k:=zj kS;clear kS;obtain⟨now',sched',next',vS',vA',own',S',A'⟩:=y';obtain⟨B1,d1,f1,hd1,hdm1⟩:=k.out.fact.1.2.1.len;obtain⟨B2,d2,f2,hd2,hdm2⟩:=k.out.fact.1.2.2.2.1.len;dsimp only at f1 f2 hd1 hd2;rw[List.length_map] at f1 hd1;subst f1 f2;unfold maxLen at hdm1 hdm2;by_cases hlt:kk<lS.length
  ·obtain⟨r,hr⟩: ∃r,lS[kk]? =some r:=⟨_,List.getElem?_eq_getElem hlt⟩
   obtain⟨q,body,rfl,hbd,hq0,hq1⟩:=out_lit (HST.out r (List.mem_of_getElem? hr));obtain⟨bd,od,eA2,_⟩:=k.out.fact.2.row hr (by decide);have HE:=Lib.hid eA2;subst eA2;clear HE;have HD:=zj k.out.fact.2;have HRW:=Lib.hid hr;clear hr;have hki:(kk:Int)<lS.length:=by omega
   have hkc:(kk:Int)<=c2:=by omega
   go_upto_region 4 with(first|((with_reducible refine zz ?_);refine xV rfl rfl HD.out HRW.out (by decide) rfl ⟨_,rfl,rfl⟩ (Tryz.isAgg137 _) (Tryz.sizeOf137 _) ?_)|(first|((with_reducible refine zx ?_);refine soa k rfl rfl rfl .a0 (by rfl) (by rfl) (zm rfl) ?_;clear k;intro W k)|((with_reducible refine zf ?_);refine ala k Tryz.zeroValue137 ?_;clear k;intro b137 X W k)))
   clear HD HRW;replace k:Hid (St _ _ _ [(b137,#[.int .i64 q,.string body],_),(b36,zSy,_),(c36,_,_)] _ _ _):=k;go_wp2_with((with_reducible refine zz ?_);first|(refine ld1 k rfl rfl (by repeat constructor) (by rfl) ?_)|(refine ldp k rfl rfl .a2 (D:= #[_,_,_,_]) (by rfl) (by rfl) ?_));refine(rto_any p.vP p.fr p.vW p.vC p.lC who q _ _ k.out.lt k.out.fact.1.1.1.2.2.2 HP.out.T.C (by have:=(vx HP.out.ok).2.2.1;omega) hq1).mono ?_;rintro e W1 ⟨a,b,is,rfl,his,hb⟩;replace k:=zj (k.out.call hb);have HIS:=Lib.hid his;clear hb his;cases is with
   |false=>
    go_wp2_with(first|((with_reducible refine zx ?_);refine soa k rfl rfl rfl .a0 (by rfl) (by rfl) (zm rfl) ?_;clear k;intro W k)|((with_reducible refine zf ?_);refine ala k Tryz.zeroValue139 ?_;clear k;intro b139 X W k))
    go_roundw
    case rel=>exact⟨kk+1,_,by omega,by go_num,hOK,hTu,zj ⟨_,(k.out.drop (n:=2)).turn (fun h=>⟨h.1.mono (by omega),h.2⟩) ((xp _ _ _).and (zb _ _ _))⟩⟩
    case measure=>simp[intOf];omega
   |true=>
    obtain⟨rc,hrc,hac⟩:=HIS.out rfl;have hcp:=chan_part ((vx HP.out.ok).2.2.2.2.2.2.2.2 rc hrc);have hnp:=(vx HP.out.ok).1;obtain⟨j,hj⟩: ∃j:Nat,a=j:=⟨a.toNat,by omega⟩;subst hj;have hSl:=hOK.out.Sl;have hAl:=hOK.out.Al;dsimp only at hSl hAl;have hjl:j<S'.length:=by omega
    have hjA:j<A'.length:=by omega
    have hS8:S'.length<=1000000:=by omega
    have hA8:A'.length<=1000000:=by omega
    clear HIS hrc hac hcp hnp hSl hAl;obtain⟨z1,hz1⟩: ∃z,S'[j]? =some z:=⟨_,List.getElem?_eq_getElem hjl⟩;have hr1:(S'.map seC)[j]? =some (seC z1):=by rw[List.getElem?_map,hz1];rfl
    have hok1:=hOK.out.seat j z1 hz1;obtain⟨x1,st1,bo1⟩:=z1;have ho1:yZ (SC x1 st1 bo1):=seC_one k.out.fact.1 _ (List.mem_of_getElem? hr1);obtain⟨r2,hr2⟩: ∃r,A'[j]? =some r:=⟨_,List.getElem?_eq_getElem hjA⟩;obtain⟨v2,l2,⟨rfl,hl2,h12⟩,hsl2⟩:=k.out.fact.1.2.2.2.2 r2 (List.mem_of_getElem? hr2);obtain⟨A3,c3,rfl,hlc3,hcm3⟩:=hsl2.len;unfold maxLen at hcm3;have hs2:Hid (∀r∈l2,r.size=3):=zj (by obtain⟨_,_,_,_,h,_⟩:=hsl2;exact h);obtain⟨b1,o1,eB1,_⟩:=k.out.fact.1.2.1.row hr1 (by decide);obtain⟨b2,o2,eB2,_⟩:=k.out.fact.1.2.2.2.1.row hr2 (by decide);have HEB:=Lib.hid (And.intro eB1 eB2);subst eB1 eB2;clear HEB;replace k:=zj (k.out.add hsl2 (zb _ _ _));have HR1:=Lib.hid hr1;have HR2:=Lib.hid hr2;have HZ1:=Lib.hid hz1;have OK1:=Lib.hid hok1;have H12:=Lib.hid h12;have HJL:=Lib.hid (And.intro hjl hjA);have hsz:(SC x1 st1 bo1).size=19:=rfl;have hji:(j:Int)<S'.length:=by omega
    have hjc:(j:Int)<d1:=by omega
    have hjA1:(j:Int)<A'.length:=by omega
    have hjA2:(j:Int)<d2:=by omega
    clear hsl2 hr1 hr2 hz1 hok1 h12 hjl hjA
    go_upto_region 6 with(first|((with_reducible refine zx ?_);refine soa k rfl rfl rfl .a0 (by rfl) (by rfl) (zm rfl) ?_;clear k;intro W k)|((with_reducible refine zf ?_);refine ala k Tryz.zeroValue139 ?_;clear k;intro b139 X W k))
    replace k:Hid (St _ _ _ [(b139,#[.int .i64 j,.int .i64 b],_),(b137,#[.int .i64 q,.string body],_),(b36,zSy,_),(c36,_,_)] _ _ _):=k;have HD:=zj k.out.fact.1.1.2.1
    go_upto_region 7 with(first|((with_reducible refine zz ?_);refine xV rfl rfl HD.out HR1.out (by decide) rfl ⟨_,rfl,rfl⟩ (Tryz.isAgg58 _) (Tryz.sizeOf58 _) ?_)|(first|((with_reducible refine zz ?_);refine ld1 k rfl rfl (by repeat constructor) (by rfl) ?_)|((with_reducible refine zx ?_);refine soa k rfl rfl rfl .a0 (by rfl) (by rfl) (by assumption) ?_;clear k;intro W k)|((with_reducible refine zf ?_);refine ala k Tryz.zeroValue58 ?_;clear k;intro b58 X W k)))
    clear HD;replace k:Hid (St _ _ _ [(b58,SC x1 st1 bo1,_),(b139,#[.int .i64 j,.int .i64 b],_),(b137,#[.int .i64 q,.string body],_),(b36,zSy,_),(c36,_,_)] _ _ _):=k;have HPer:=Lib.hid k.out.per;refine zt k 23 24 (by kernel_rfl) rfl ?_;clear k;intro W k;refine zq [(0,some 39,[23]),(1,some 40,[23]),(2,some 41,[23]),(3,some 42,[23]),(4,some 43,[23]),(5,some 44,[23]),(6,some 45,[23]),(7,some 46,[23]),(8,some 47,[23]),(9,some 48,[23]),(11,some 50,[23]),(12,some 51,[23]),(13,some 52,[23]),(14,some 53,[23]),(15,some 54,[23]),(16,some 55,[23]),(17,some 56,[23]),(18,some 57,[23])] [?v1_0,?v1_1,?v1_2,?v1_3,?v1_4,?v1_5,?v1_6,?v1_7,?v1_8,?v1_9,?v1_11,?v1_12,?v1_13,?v1_14,?v1_15,?v1_16,?v1_17,?v1_18] 6 (by kernel_rfl) ⟨_,k.out⟩ ?l1 ?h1;case l1=>
     intro w' hSw;iterate 9
      refine lkw rfl rfl (by rfl) ?_ ?_
      ·first|((with_reducible refine yw ?_);first|exact hSw.l1 rfl rfl (by repeat constructor) (by rfl))|(go_simp<;>with_reducible rfl)
      try simp only[Act.put,tS,t0,t1]
     refine lkw rfl rfl (by rfl) ?_ ?_
     ·refine yG rfl ?_
      obtain⟨X',hX'⟩:=hSw.get;exact sl_cell1 hX'.1.1.2.2.2.1 HR2.out (Tryz.isAgg143 _)
     try simp only[Act.put,tS,t0,t1]
     iterate 8
      refine lkw rfl rfl (by rfl) ?_ ?_
      ·first|((with_reducible refine yw ?_);first|exact hSw.l1 rfl rfl (by repeat constructor) (by rfl))|(go_simp<;>with_reducible rfl)
      try simp only[Act.put,tS,t0,t1]
     trivial
    simp only[zw,zk,Act.put,tS,t0,t1];refine yI (i:=10) (j:=19) (fuel:=5) (by kernel_rfl) rfl rfl ?_ ?_
    ·go_wp2_with fail
     refine(clipStamp_any A3 _ c3 _ hlc3).mono ?_;rintro e W1 ⟨rfl,rfl⟩;go_wp2_with fail;refine zd (yz ⟨_,k.out⟩) ?_;refine w1 19 4 (by kernel_rfl) rfl ?_;go_wp2_with((with_reducible refine qY ?_);refine qp k elStamp rfl rfl rfl rfl rfl (by decide) (by decide) ?_;clear k;intro brow X W k);have hkr:=k.out.blk (i:=0) rfl;replace k:=zj (k.out.drop (n:=1));refine zd (yz ⟨_,k.out⟩) ?_;refine w1 20 3 (by kernel_rfl) rfl ?_;have hfT:=k.out.fact.2;go_wp2_with((with_reducible refine jZ ?_);refine jv elStamp (by decide) rfl (.tmp 49) (.tmp 58) rfl _ l2 [stC x1.now b body] X (fun _=>False) rfl (sl_cap hfT (Nat.le_refl _) hlc3) _ rfl (qU hkr rfl (Nat.le_refl 1) (by unfold maxLen;omega)) (by intro r hr;rw[List.mem_singleton.1 hr];exact zm rfl) (by simp) (by simp;omega) (by omega) ?_;intro v2 W2 hown2 hb2);have hf:=zV hown2 (xl hs2.out rfl) k.out.lt;obtain⟨A5,c5,e5,_⟩:=yb hown2;rw[List.length_append] at e5;change _=Value.slice A5 (l2.length+1) c5 at e5;subst e5;replace k:=zj ((k.out.call hb2).add hf (zb _ _ _));clear hown2 hb2 hfT hkr hf;refine zd (yz ⟨_,k.out.turn And.left HPer.out⟩) ?_;refine w1 21 2 (by kernel_rfl) rfl ?_;go_wp2_with fail;refine(setStamps_any _ A' j _ _ _ k.out.fact.1.1.1.2.2.2.1 (arr_one k.out.fact.1.1.1) hA8 k.out.lt HJL.out.2 rfl rfl).mono ?_;rintro e W3 ⟨v3,rfl,hsl3,hb3⟩;have hv3:=hsl3.one;obtain⟨A6,c6,e6,_,_⟩:=hsl3.len;rw[List.length_set] at e6;subst e6;replace k:=zj ((k.out.call hb3).add hsl3 (zb _ _ _));clear hb3 hsl3;go_wp2_with fail;refine zd (yz ⟨_,k.out.turn (fun h=>h.1.1) HPer.out⟩) ?_;refine zq [(22,some 61,[23])] [?v2_22] 1 (by kernel_rfl) ⟨_,k.out.turn (fun h=>h.1.1) HPer.out⟩ ?l2 ?h2;case l2=>
      intro w' hSw;refine lkw rfl rfl (by rfl) ?_ ?_
      ·go_simp<;>with_reducible rfl
      try simp only[Act.put,tS,t0,t1]
      trivial
     simp only[zw,zk,Act.put,tS,t0,t1];refine w1 23 0 (by kernel_rfl) rfl ?_;go_wp2_with((with_reducible refine zx ?_);refine yE k (E:=SyC p ⟨now',sched',next',.slice (some ⟨b1,o1,none⟩) S'.length d1,(.slice A6 A'.length c6),own',S',A'.set j #[.slice A5 (l2.length+1) c5]⟩) (G':=fun X W=>SyG p (m+kk+1) ⟨now',sched',next',.slice (some ⟨b1,o1,none⟩) S'.length d1,(.slice A6 A'.length c6),own',S',A'.set j #[.slice A5 (l2.length+1) c5]⟩ X W/\Sl 2 (.slice (some ⟨bd,od,none⟩) lS.length c2) lS X W) rfl rfl rfl rfl .a4 (by rfl) (by rfl) ((xp _ _ _).and (zb _ _ _)) (fun X W h=>⟨SyG.setA (y:=⟨now',sched',next',.slice (some ⟨b1,o1,none⟩) S'.length d1,.slice (some ⟨b2,o2,none⟩) A'.length d2,own',S',A'⟩) h.1.1.1.1 (by omega) h.2 ⟨_,_,⟨rfl,by simp;omega,xl H12.out (zm rfl)⟩,h.1.2⟩,h.1.1.1.2⟩) ?_;clear k;intro W k);refine zd (zJ rfl) ?_;refine zv (by kernel_rfl) ?_ _;clear HPer;replace k:Hid (St _ _ _ [(b58,SC x1 st1 bo1,_),(b139,#[.int .i64 j,.int .i64 b],_),(b137,#[.int .i64 q,.string body],_),(b36,zSy,_),(c36,SyC p ⟨now',sched',next',.slice (some ⟨b1,o1,none⟩) S'.length d1,.slice A6 A'.length c6,own',S',A'.set j #[.slice A5 (l2.length+1) c5]⟩,_)] _ _ _):=k
     go_upto_region 8 with fail
     have HPer:=Lib.hid k.out.per;refine zt k 12 13 (by kernel_rfl) rfl ?_;clear k;intro W k;refine zq [(0,some 62,[12]),(1,some 63,[12]),(2,some 64,[12]),(3,some 65,[12]),(4,some 66,[12]),(5,some 67,[12]),(6,some 68,[12]),(7,some 69,[12]),(8,some 70,[12])] [?v3_0,?v3_1,?v3_2,?v3_3,?v3_4,?v3_5,?v3_6,?v3_7,?v3_8] 4 (by kernel_rfl) ⟨_,k.out⟩ ?l3 ?h3;case l3=>
      intro w' hSw;iterate 9
       refine lkw rfl rfl (by rfl) ?_ ?_
       ·first|((with_reducible refine yw ?_);first|exact hSw.l1 rfl rfl (by repeat constructor) (by rfl)|exact hSw.la rfl rfl .a0 (by with_reducible assumption) (by rfl))|(go_simp<;>with_reducible rfl)
       try simp only[Act.put,tS,t0,t1]
      trivial
     simp only[zw,zk,Act.put,tS,t0,t1];refine w1 9 3 (by kernel_rfl) rfl ?_;go_wp2_with fail;refine(sarrive_any (nB s) s x1 st1 bo1 _ _ k.out.lt (k.out.fact.1.2.2.1 ⟨x1,st1,bo1⟩ (List.mem_of_getElem? HZ1.out)) OK1.out.ok b body hbd).mono ?_;rintro e W4 ⟨vb,lb,rfl,hsl4,hok4,hb4⟩;have ho4:yZ (SC {x1 with vBx:=vb,Bx:=lb} st1 bo1):=Zb hsl4 st1 bo1;replace k:=zj ((k.out.call hb4).add hsl4 (zO _));have OK4:=Lib.hid hok4;clear hb4 hsl4 hok4;go_wp2_with fail;refine zd (yz ⟨_,k.out.turn And.left HPer.out⟩) ?_;refine w1 10 2 (by kernel_rfl) rfl ?_;go_wp2_with fail;refine(Zy _ (S'.map seC) j (SC {x1 with vBx:=vb,Bx:=lb} st1 bo1) _ _ k.out.fact.1.1.2.1 (seC_one k.out.fact.1.1) (by rw[List.length_map];exact hS8) k.out.lt (by rw[List.length_map];exact HJL.out.1) rfl ho4).mono ?_;rintro e W5 ⟨v5,rfl,hsl5,hb5⟩;have hv5:=hsl5.one;replace k:=zj ((k.out.call hb5).add hsl5 (zb _ _ _));clear hb5 hsl5;go_wp2_with fail;refine zd (yz ⟨_,k.out.turn (fun h=>h.1.1) HPer.out⟩) ?_;refine zq [(11,some 73,[12])] [?v4_11] 1 (by kernel_rfl) ⟨_,k.out.turn (fun h=>h.1.1) HPer.out⟩ ?l4 ?h4;case l4=>
      intro w' hSw;refine lkw rfl rfl (by rfl) ?_ ?_
      ·go_simp<;>with_reducible rfl
      try simp only[Act.put,tS,t0,t1]
      trivial
     simp only[zw,zk,Act.put,tS,t0,t1];refine w1 12 0 (by kernel_rfl) rfl ?_;go_wp2_with((with_reducible refine zx ?_);refine yE k (E:=SyC p ⟨now',sched',next',v5,.slice A6 A'.length c6,own',S'.set j ⟨{x1 with vBx:=vb,Bx:=lb},st1,bo1⟩,A'.set j #[.slice A5 (l2.length+1) c5]⟩) (G':=fun X W=>SyG p (m+kk+1) ⟨now',sched',next',v5,.slice A6 A'.length c6,own',S'.set j ⟨{x1 with vBx:=vb,Bx:=lb},st1,bo1⟩,A'.set j #[.slice A5 (l2.length+1) c5]⟩ X W/\Sl 2 (.slice (some ⟨bd,od,none⟩) lS.length c2) lS X W) rfl rfl rfl hv5 .a4 (by rfl) (by rfl) ((xp _ _ _).and (zb _ _ _)) (fun X W h=>⟨SyG.setS (y:=⟨now',sched',next',.slice (some ⟨b1,o1,none⟩) S'.length d1,.slice A6 A'.length c6,own',S',A'.set j #[.slice A5 (l2.length+1) c5]⟩) (z':=⟨{x1 with vBx:=vb,Bx:=lb},st1,bo1⟩) h.1.1.1 h.2 h.1.2,h.1.1.2⟩) ?_;clear k;intro W k);refine zd (zJ rfl) ?_;refine zv (by kernel_rfl) ?_ _;clear HPer;go_wp2_with fail
     go_roundw
     case rel=>exact⟨kk+1,⟨now',sched',next',v5,.slice A6 A'.length c6,own',S'.set j ⟨{x1 with vBx:=vb,Bx:=lb},st1,bo1⟩,A'.set j #[.slice A5 (l2.length+1) c5]⟩,by omega,by go_num,zj (SyOk.set (y:=⟨now',sched',next',.slice (some ⟨b1,o1,none⟩) S'.length d1,.slice A6 A'.length c6,own',S',A'.set j #[.slice A5 (l2.length+1) c5]⟩) (z':=⟨{x1 with vBx:=vb,Bx:=lb},st1,bo1⟩) ⟨hOK.out.Sl,by have:=hOK.out.Al;simpa using this,hOK.out.seat,hOK.out.now,hOK.out.one⟩ {OK1.out with ok:=OK4.out}),zj ⟨hTu.out.1,hTu.out.2.1,hTu.out.2.2.1,hTu.out.2.2.2.1,hTu.out.2.2.2.2.trans (NearS.set HZ1.out ⟨rfl,rfl,_,_,rfl⟩)⟩,zj ⟨_,k.out.drop (n:=3)⟩⟩
     case measure=>simp[intOf];omega
    ·go_wp2_with((with_reducible refine qY ?_);refine qp k elStamp rfl rfl rfl rfl rfl (by decide) (by decide) ?_;clear k;intro brow X W k)
     have hkr:=k.out.blk (i:=0) rfl;replace k:=zj (k.out.drop (n:=1));refine zd (yz ⟨_,k.out⟩) ?_;refine w1 10 4 (by kernel_rfl) rfl ?_;go_wp2_with fail;refine(clipStamp_any A3 _ c3 _ hlc3).mono ?_;rintro e W1 ⟨rfl,rfl⟩;go_wp2_with fail;refine zd (yz ⟨_,k.out⟩) ?_;refine w1 20 3 (by kernel_rfl) rfl ?_;have hfT:=k.out.fact.2;go_wp2_with((with_reducible refine jZ ?_);refine jv elStamp (by decide) rfl (.tmp 49) (.tmp 58) rfl _ l2 [stC x1.now b body] X (fun _=>False) rfl (sl_cap hfT (Nat.le_refl _) hlc3) _ rfl (qU hkr rfl (Nat.le_refl 1) (by unfold maxLen;omega)) (by intro r hr;rw[List.mem_singleton.1 hr];exact zm rfl) (by simp) (by simp;omega) (by omega) ?_;intro v2 W2 hown2 hb2);have hf:=zV hown2 (xl hs2.out rfl) k.out.lt;obtain⟨A5,c5,e5,_⟩:=yb hown2;rw[List.length_append] at e5;change _=Value.slice A5 (l2.length+1) c5 at e5;subst e5;replace k:=zj ((k.out.call hb2).add hf (zb _ _ _));clear hown2 hb2 hfT hkr hf;refine zd (yz ⟨_,k.out.turn And.left HPer.out⟩) ?_;refine w1 21 2 (by kernel_rfl) rfl ?_;go_wp2_with fail;refine(setStamps_any _ A' j _ _ _ k.out.fact.1.1.1.2.2.2.1 (arr_one k.out.fact.1.1.1) hA8 k.out.lt HJL.out.2 rfl rfl).mono ?_;rintro e W3 ⟨v3,rfl,hsl3,hb3⟩;have hv3:=hsl3.one;obtain⟨A6,c6,e6,_,_⟩:=hsl3.len;rw[List.length_set] at e6;subst e6;replace k:=zj ((k.out.call hb3).add hsl3 (zb _ _ _));clear hb3 hsl3;go_wp2_with fail;refine zd (yz ⟨_,k.out.turn (fun h=>h.1.1) HPer.out⟩) ?_;refine zq [(22,some 61,[23])] [?v5_22] 1 (by kernel_rfl) ⟨_,k.out.turn (fun h=>h.1.1) HPer.out⟩ ?l5 ?h5;case l5=>
      intro w' hSw;refine lkw rfl rfl (by rfl) ?_ ?_
      ·go_simp<;>with_reducible rfl
      try simp only[Act.put,tS,t0,t1]
      trivial
     simp only[zw,zk,Act.put,tS,t0,t1];refine w1 23 0 (by kernel_rfl) rfl ?_;go_wp2_with((with_reducible refine zx ?_);refine yE k (E:=SyC p ⟨now',sched',next',.slice (some ⟨b1,o1,none⟩) S'.length d1,(.slice A6 A'.length c6),own',S',A'.set j #[.slice A5 (l2.length+1) c5]⟩) (G':=fun X W=>SyG p (m+kk+1) ⟨now',sched',next',.slice (some ⟨b1,o1,none⟩) S'.length d1,(.slice A6 A'.length c6),own',S',A'.set j #[.slice A5 (l2.length+1) c5]⟩ X W/\Sl 2 (.slice (some ⟨bd,od,none⟩) lS.length c2) lS X W) rfl rfl rfl rfl .a4 (by rfl) (by rfl) ((xp _ _ _).and (zb _ _ _)) (fun X W h=>⟨SyG.setA (y:=⟨now',sched',next',.slice (some ⟨b1,o1,none⟩) S'.length d1,.slice (some ⟨b2,o2,none⟩) A'.length d2,own',S',A'⟩) h.1.1.1.1 (by omega) h.2 ⟨_,_,⟨rfl,by simp;omega,xl H12.out (zm rfl)⟩,h.1.2⟩,h.1.1.1.2⟩) ?_;clear k;intro W k);refine zd (zJ rfl) ?_;refine zv (by kernel_rfl) ?_ _;clear HPer;replace k:Hid (St _ _ _ [(b58,SC x1 st1 bo1,_),(b139,#[.int .i64 j,.int .i64 b],_),(b137,#[.int .i64 q,.string body],_),(b36,zSy,_),(c36,SyC p ⟨now',sched',next',.slice (some ⟨b1,o1,none⟩) S'.length d1,.slice A6 A'.length c6,own',S',A'.set j #[.slice A5 (l2.length+1) c5]⟩,_)] _ _ _):=k
     go_upto_region 8 with fail
     have HPer:=Lib.hid k.out.per;refine zt k 12 13 (by kernel_rfl) rfl ?_;clear k;intro W k;refine zq [(0,some 62,[12]),(1,some 63,[12]),(2,some 64,[12]),(3,some 65,[12]),(4,some 66,[12]),(5,some 67,[12]),(6,some 68,[12]),(7,some 69,[12]),(8,some 70,[12])] [?v6_0,?v6_1,?v6_2,?v6_3,?v6_4,?v6_5,?v6_6,?v6_7,?v6_8] 4 (by kernel_rfl) ⟨_,k.out⟩ ?l6 ?h6;case l6=>
      intro w' hSw;iterate 9
       refine lkw rfl rfl (by rfl) ?_ ?_
       ·first|((with_reducible refine yw ?_);first|exact hSw.l1 rfl rfl (by repeat constructor) (by rfl)|exact hSw.la rfl rfl .a0 (by with_reducible assumption) (by rfl))|(go_simp<;>with_reducible rfl)
       try simp only[Act.put,tS,t0,t1]
      trivial
     simp only[zw,zk,Act.put,tS,t0,t1];refine w1 9 3 (by kernel_rfl) rfl ?_;go_wp2_with fail;refine(sarrive_any (nB s) s x1 st1 bo1 _ _ k.out.lt (k.out.fact.1.2.2.1 ⟨x1,st1,bo1⟩ (List.mem_of_getElem? HZ1.out)) OK1.out.ok b body hbd).mono ?_;rintro e W4 ⟨vb,lb,rfl,hsl4,hok4,hb4⟩;have ho4:yZ (SC {x1 with vBx:=vb,Bx:=lb} st1 bo1):=Zb hsl4 st1 bo1;replace k:=zj ((k.out.call hb4).add hsl4 (zO _));have OK4:=Lib.hid hok4;clear hb4 hsl4 hok4;go_wp2_with fail;refine zd (yz ⟨_,k.out.turn And.left HPer.out⟩) ?_;refine w1 10 2 (by kernel_rfl) rfl ?_;go_wp2_with fail;refine(Zy _ (S'.map seC) j (SC {x1 with vBx:=vb,Bx:=lb} st1 bo1) _ _ k.out.fact.1.1.2.1 (seC_one k.out.fact.1.1) (by rw[List.length_map];exact hS8) k.out.lt (by rw[List.length_map];exact HJL.out.1) rfl ho4).mono ?_;rintro e W5 ⟨v5,rfl,hsl5,hb5⟩;have hv5:=hsl5.one;replace k:=zj ((k.out.call hb5).add hsl5 (zb _ _ _));clear hb5 hsl5;go_wp2_with fail;refine zd (yz ⟨_,k.out.turn (fun h=>h.1.1) HPer.out⟩) ?_;refine zq [(11,some 73,[12])] [?v7_11] 1 (by kernel_rfl) ⟨_,k.out.turn (fun h=>h.1.1) HPer.out⟩ ?l7 ?h7;case l7=>
      intro w' hSw;refine lkw rfl rfl (by rfl) ?_ ?_
      ·go_simp<;>with_reducible rfl
      try simp only[Act.put,tS,t0,t1]
      trivial
     simp only[zw,zk,Act.put,tS,t0,t1];refine w1 12 0 (by kernel_rfl) rfl ?_;go_wp2_with((with_reducible refine zx ?_);refine yE k (E:=SyC p ⟨now',sched',next',v5,.slice A6 A'.length c6,own',S'.set j ⟨{x1 with vBx:=vb,Bx:=lb},st1,bo1⟩,A'.set j #[.slice A5 (l2.length+1) c5]⟩) (G':=fun X W=>SyG p (m+kk+1) ⟨now',sched',next',v5,.slice A6 A'.length c6,own',S'.set j ⟨{x1 with vBx:=vb,Bx:=lb},st1,bo1⟩,A'.set j #[.slice A5 (l2.length+1) c5]⟩ X W/\Sl 2 (.slice (some ⟨bd,od,none⟩) lS.length c2) lS X W) rfl rfl rfl hv5 .a4 (by rfl) (by rfl) ((xp _ _ _).and (zb _ _ _)) (fun X W h=>⟨SyG.setS (y:=⟨now',sched',next',.slice (some ⟨b1,o1,none⟩) S'.length d1,.slice A6 A'.length c6,own',S',A'.set j #[.slice A5 (l2.length+1) c5]⟩) (z':=⟨{x1 with vBx:=vb,Bx:=lb},st1,bo1⟩) h.1.1.1 h.2 h.1.2,h.1.1.2⟩) ?_;clear k;intro W k);refine zd (zJ rfl) ?_;refine zv (by kernel_rfl) ?_ _;clear HPer;go_wp2_with fail
     go_roundw
     case rel=>exact⟨kk+1,⟨now',sched',next',v5,.slice A6 A'.length c6,own',S'.set j ⟨{x1 with vBx:=vb,Bx:=lb},st1,bo1⟩,A'.set j #[.slice A5 (l2.length+1) c5]⟩,by omega,by go_num,zj (SyOk.set (y:=⟨now',sched',next',.slice (some ⟨b1,o1,none⟩) S'.length d1,.slice A6 A'.length c6,own',S',A'.set j #[.slice A5 (l2.length+1) c5]⟩) (z':=⟨{x1 with vBx:=vb,Bx:=lb},st1,bo1⟩) ⟨hOK.out.Sl,by have:=hOK.out.Al;simpa using this,hOK.out.seat,hOK.out.now,hOK.out.one⟩ {OK1.out with ok:=OK4.out}),zj ⟨hTu.out.1,hTu.out.2.1,hTu.out.2.2.1,hTu.out.2.2.2.1,hTu.out.2.2.2.2.trans (NearS.set HZ1.out ⟨rfl,rfl,_,_,rfl⟩)⟩,zj ⟨_,k.out.drop (n:=3)⟩⟩
     case measure=>simp[intOf];omega
  ·have hki:(lS.length:Int)<=kk:=by omega
   have ho:yZ (SyC p ⟨now',sched',next',.slice B1 S'.length d1,.slice B2 A'.length d2,own',S',A'⟩):=qw k.out.fact.1;go_wp2_with(first|((with_reducible refine zz ?_);refine lda k rfl rfl .a1 (by rfl) ?_)|((with_reducible refine zx ?_);refine soa k rfl rfl rfl .a0 (by rfl) (by rfl) (by assumption) ?_;clear k;intro W k));exact bodyPost_ret (yj rfl _ rfl (yx k.out 0 rfl 36 rfl rfl)) rfl ⟨_,rfl,k.out.out.1.mono (by omega),hOK.out,hTu.out,k.out.end⟩
section
open Go.RowKit Go.Proofs.YtaccidkgnkmagaaGreatDoor.Isa
theorem near_set{S S':List Se}{who:Nat}{z0 z1:Se}(hz:S[who]? =some z0)(h:NearS (S.set who z1) S'):
  S'.length=S.length/\ ∀(i:Nat) (z':Se),S'[i]? =some z'-> ∃z,S[i]? =some z/\(i≠who->Near z z')/\(i=who->z=z0/\Near z1 z'):=by
 refine⟨by have:=h.1;simpa using this,fun i z' hz'=> ?_⟩;obtain⟨z,h1,hn⟩:=h.2 i z' hz';rw[List.getElem?_set] at h1;split at h1
 ·rename_i e
  subst e;split at h1
  ·injection h1 with h1
   subst h1;exact⟨z0,hz,fun hne=>absurd rfl hne,fun _=>⟨rfl,hn⟩⟩
  ·cases h1
 ·rename_i hne
  exact⟨z,h1,fun _=>hn,fun e=>absurd e.symm hne⟩
def CycS(p:Pn)(who:Nat)(z z':Se):Prop:=z'.x.now=z.x.now+1/\ ∀r,p.lP[who]? =some r->zQ r 1=1->z.x.gone=1->z'.x.gone=1/\z'.st=1
def HCycS(p:Pn)(who:Nat)(y y':Sy):Prop:=
 (y'.now=y.now/\y'.sched=y.sched/\y'.own=y.own)/\y'.S.length=y.S.length/\ ∀(i:Nat) (z':Se),y'.S[i]? =some z'-> ∃z,y.S[i]? =some z/\(i≠who->Near z z')/\(i=who->CycS p who z z')
def HCycR(p:Pn)(s m who:Nat)(y:Sy)(X:Nat->Prop)(w:World)(e:Ending)(w':World):Prop:=
 ∃y',e= .returned (.agg (SyC p y'))/\SyG p m y' X w' /\SyOk p s y' /\HCycS p who y y' /\Below w.heap.size w w'
theorem hcyc_rel{p:Pn}{who:Nat}{y y2:Sy}{z0 z1:Se}{v:Value}{nx:Int}(hz:y.S[who]? =some z0)(hc:CycS p who z0 z1)(h:Turn {y with vS:=v,S:=y.S.set who z1} y2):HCycS p who y {y2 with next:=nx}:=by
 obtain⟨h1,h2,h3,h4,h5⟩:=h;obtain⟨k1,k2⟩:=near_set hz h5;refine⟨⟨h1,h2,h4⟩,k1,fun i z' hz'=> ?_⟩;obtain⟨z,e1,e2,e3⟩:=k2 i z' hz';refine⟨z,e1,e2,fun e=> ?_⟩;obtain⟨rfl,hn1,hn2,vb,lb,hn3⟩:=e3 e;refine⟨by rw[hn3];exact hc.1,fun r hr ha hg=> ?_⟩;have:=hc.2 r hr ha hg;rw[hn3,hn1];exact this
theorem SyOk.next{p:Pn}{s:Nat}{y:Sy}{nx:Int}(h:SyOk p s y)(hn:p.wl.length=1->nx=0):SyOk p s {y with next:=nx}:=⟨h.Sl,h.Al,h.seat,h.now,fun e=>⟨(h.one e).1,hn e⟩⟩
theorem hcycle_any(p:Pn)(s m:Nat)(y:Sy)(who:Nat)(X0:Nat->Prop)(w:World)(hX: ∀b,X0 b->b<w.heap.size)(hG:SyG p m y X0 w)(hP:PnT p)(hok:SyOk p s y)(hs:s<=700)(hm:m<=100000)(hT:Tab w)(z0:Se)(hz0:y.S[who]? =some z0)(hst:z0.st=1):
  Calls Tryz.prog 24 #[.agg (SyC p y),.int .i64 who] w (HCycR p (s+1) (m+8) who y X0 w):=by
 obtain⟨now,sched,next,vS,vA,own,S,A⟩:=y;obtain⟨vP,lP,fr,vW,lW,wl,vC,lC,vI,lI,il⟩:=p;obtain⟨x0,st0,bo0⟩:=z0;dsimp only at hst hz0;subst hst;obtain⟨A1,c1,e1,hlc1,hcm1⟩:=hG.2.1.len;obtain⟨A2,c2,e2,hlc2,hcm2⟩:=hG.1.1.1.len;obtain⟨A3,c3,e3,hlc3,hcm3⟩:=hG.1.1.2.1.len;dsimp only at e1 hlc1 e2 hlc2 e3 hlc3;rw[List.length_map] at e1 hlc1;subst e1 e2 e3;have hwl:=hG.1.1.2.2.1.1;dsimp only at hwl;unfold maxLen at hcm1 hcm2;have hlt:who<S.length:=(List.getElem?_eq_some_iff.1 hz0).1;have hSl:=hok.Sl;dsimp only at hSl;have hltP:who<lP.length:=by omega
 obtain⟨rp,hrp⟩: ∃r,lP[who]? =some r:=⟨_,List.getElem?_eq_getElem hltP⟩;have htp:=hP.T.P rp (List.mem_of_getElem? hrp);obtain⟨pm,a0,a1,a2,rfl,hp0,hp1⟩:=part_lit htp;have hr0:(S.map seC)[who]? =some (SC x0 1 bo0):=by rw[List.getElem?_map,hz0];rfl
 obtain⟨bs0,os0,eA1,_⟩:=hG.2.1.row hr0 (by decide);obtain⟨bp0,op0,eA2,_⟩:=hG.1.1.1.row hrp (by decide);subst eA1 eA2;have k:Hid (St (fun _=>False) X0 w [] (SyG ⟨.slice (some ⟨bp0,op0,none⟩) lP.length c2,lP,fr,.slice A3 lW.length c3,lW,wl,vC,lC,vI,lI,il⟩ m ⟨now,sched,next,.slice (some ⟨bs0,os0,none⟩) S.length c1,vA,own,S,A⟩) X0 w):=St.begin hX hG (xp _ _ _);have HP:=Lib.hid hP;have OK:=Lib.hid hok;have OKz:=Lib.hid (hok.seat who _ hz0);have HT:=Lib.hid hT;have HR:=Lib.hid hr0;have HRP:=Lib.hid hrp;have HZ:=Lib.hid hz0;have HWL:=Lib.hid hwl;have hS8:S.length<=1000000:=by have:=(vx hP.ok).1;dsimp only at this;omega
 have hW3:wl.length<=3:=(vx hP.ok).2.1;have hki:(who:Int)<S.length:=by omega
 have hkc:(who:Int)<c1:=by omega
 have hkp:(who:Int)<lP.length:=by omega
 have hkq:(who:Int)<c2:=by omega
 have ho1:yZ (SC x0 1 bo0):=seC_one hG _ (List.mem_of_getElem? hr0);have HLT:=Lib.hid hlt;clear hG hP hok hT hr0 hrp hz0 hlt hltP htp hSl hwl;go_enter Tryz.func24,Tryz.ntmps24
 go_upto_region 1 with(first|((with_reducible refine zI ?_);refine bxa k (T:=36) rfl ?_;clear k;intro c36 X W k)|((with_reducible refine zf ?_);refine ala k Tryz.zeroValue36 ?_;clear k;intro b36 X W k))
 replace k:Hid (St _ _ _ [(b36,zSy,_),(c36,_,_)] _ _ _):=k;have HPer:=Lib.hid k.out.per;refine zt k 17 18 (by kernel_rfl) rfl ?_;clear k;intro W k;refine zq [(0,some 6,[17]),(1,some 7,[17]),(2,some 8,[17]),(3,some 9,[17]),(4,some 10,[17]),(5,some 11,[17]),(6,some 12,[17]),(7,some 13,[17]),(8,some 14,[17]),(9,some 15,[17]),(10,some 16,[17]),(11,some 17,[17]),(12,some 18,[17]),(13,some 19,[17])] [?v1_0,?v1_1,?v1_2,?v1_3,?v1_4,?v1_5,?v1_6,?v1_7,?v1_8,?v1_9,?v1_10,?v1_11,?v1_12,?v1_13] 4 (by kernel_rfl) ⟨_,k.out⟩ ?l1 ?h1;case l1=>
  intro w' hSw;iterate 8
   refine lkw rfl rfl (by rfl) ?_ ?_
   ·first|((with_reducible refine yw ?_);first|exact hSw.l1 rfl rfl .a1 (by rfl))|(go_simp<;>with_reducible rfl)
   try simp only[Act.put,tS,t0,t1]
  refine lkw rfl rfl (by rfl) ?_ ?_
  ·refine yG rfl ?_
   obtain⟨X',hX'⟩:=hSw.get;exact jJ hX'.1.1.1 HRP.out (by decide) (Tryz.isAgg76 _) (Tryz.sizeOf76 _)
  try simp only[Act.put,tS,t0,t1]
  iterate 4
   refine lkw rfl rfl (by rfl) ?_ ?_
   ·first|((with_reducible refine yw ?_);first|exact hSw.l1 rfl rfl .a1 (by rfl))|(go_simp<;>with_reducible rfl)
   try simp only[Act.put,tS,t0,t1]
  refine lkw rfl rfl (by rfl) ?_ ?_
  ·refine yG rfl ?_
   obtain⟨X',hX'⟩:=hSw.get;exact jJ hX'.2.1 HR.out (by decide) (Tryz.isAgg58 _) (Tryz.sizeOf58 _)
  try simp only[Act.put,tS,t0,t1]
  trivial
 simp only[zw,zk,Act.put,tS,t0,t1];refine w1 14 3 (by kernel_rfl) rfl ?_;go_wp2_with fail;refine(scycle_any (nB s) s pm a0 a1 a2 x0 bo0 _ _ k.out.lt (k.out.fact.2.2.1 ⟨x0,1,bo0⟩ (List.mem_of_getElem? HZ.out)) OKz.out.ok (jt HT.out k.out.only (fun h=>h)) (nB_le hs) (by have:=OKz.out.now;dsimp only at this;omega) hp0 hp1 (by have:=OKz.out.bo.1;dsimp only at this;omega) (by have:=OKz.out.bo.2;dsimp only at this;omega) OKz.out.im).mono ?_;rintro e W4 ⟨x1,st1,bo1,rfl,hsl4,hok4,htr4,him4,hou4,his4,hno4,hst4,hbo4,hid4,hb4⟩;rw[nB_step] at hok4;have ho4:yZ (SC x1 st1 bo1):=Zb hsl4 st1 bo1;have OK4:Hid (SeOk ⟨.slice (some ⟨bp0,op0,none⟩) lP.length c2,lP,fr,.slice A3 lW.length c3,lW,wl,vC,lC,vI,lI,il⟩ (s+1) who ⟨x1,st1,bo1⟩):=⟨hok4,htr4,by rw[his4];exact OKz.out.ins,by rw[him4];exact OKz.out.im,⟨by have:=OKz.out.bo.1;dsimp only at this⊢;omega,by have:=OKz.out.bo.2;dsimp only at this⊢;omega⟩,hst4,by have:=OKz.out.now;dsimp only at this⊢;omega⟩;have HC:Hid (CycS ⟨.slice (some ⟨bp0,op0,none⟩) lP.length c2,lP,fr,.slice A3 lW.length c3,lW,wl,vC,lC,vI,lI,il⟩ who ⟨x0,1,bo0⟩ ⟨x1,st1,bo1⟩):=⟨hno4,fun r hr ha hg=>hid4 hg (by have e:=HRP.out.symm.trans hr;injection e with e;subst e;exact ha)⟩;replace k:=zj ((k.out.call hb4).add hsl4 (zO _));clear hb4 hsl4 hok4 htr4 him4 hou4 his4 hno4 hst4 hbo4 hid4;go_wp2_with fail;refine zd (yz ⟨_,k.out.turn And.left HPer.out⟩) ?_;refine w1 15 2 (by kernel_rfl) rfl ?_;go_wp2_with fail;refine(Zy _ (S.map seC) who (SC x1 st1 bo1) _ _ k.out.fact.1.2.1 (seC_one k.out.fact.1) (by rw[List.length_map];exact hS8) k.out.lt (by rw[List.length_map];exact HLT.out) rfl ho4).mono ?_;rintro e W5 ⟨v5,rfl,hsl5,hb5⟩;have hv5:=hsl5.one;replace k:=zj ((k.out.call hb5).add hsl5 (zb _ _ _));clear hb5 hsl5;go_wp2_with fail;refine zd (yz ⟨_,k.out.turn (fun h=>h.1.1) HPer.out⟩) ?_;refine zq [(16,some 22,[17])] [?v2_16] 1 (by kernel_rfl) ⟨_,k.out.turn (fun h=>h.1.1) HPer.out⟩ ?l2 ?h2;case l2=>
  intro w' hSw;refine lkw rfl rfl (by rfl) ?_ ?_
  ·go_simp<;>with_reducible rfl
  try simp only[Act.put,tS,t0,t1]
  trivial
 simp only[zw,zk,Act.put,tS,t0,t1];refine w1 17 0 (by kernel_rfl) rfl ?_;go_wp2_with((with_reducible refine zx ?_);refine yE k (E:=SyC ⟨.slice (some ⟨bp0,op0,none⟩) lP.length c2,lP,fr,.slice A3 lW.length c3,lW,wl,vC,lC,vI,lI,il⟩ ⟨now,sched,next,v5,vA,own,S.set who ⟨x1,st1,bo1⟩,A⟩) (G':=SyG ⟨.slice (some ⟨bp0,op0,none⟩) lP.length c2,lP,fr,.slice A3 lW.length c3,lW,wl,vC,lC,vI,lI,il⟩ m ⟨now,sched,next,v5,vA,own,S.set who ⟨x1,st1,bo1⟩,A⟩) rfl rfl rfl hv5 .a1 (by rfl) (by rfl) (xp _ _ _) (fun X W h=>SyG.setS (y:=⟨now,sched,next,.slice (some ⟨bs0,os0,none⟩) S.length c1,vA,own,S,A⟩) (z':=⟨x1,st1,bo1⟩) h.1.1 h.2 h.1.2) ?_;clear k;intro W k);refine zd (zJ rfl) ?_;refine zv (by kernel_rfl) ?_ _;clear HPer;have hsz:(SyC ⟨.slice (some ⟨bp0,op0,none⟩) lP.length c2,lP,fr,.slice A3 lW.length c3,lW,wl,vC,lC,vI,lI,il⟩ ⟨now,sched,next,v5,vA,own,S.set who ⟨x1,st1,bo1⟩,A⟩).size=11:=rfl;have OKs:Hid (SyOk ⟨.slice (some ⟨bp0,op0,none⟩) lP.length c2,lP,fr,.slice A3 lW.length c3,lW,wl,vC,lC,vI,lI,il⟩ (s+1) ⟨now,sched,next,v5,vA,own,S.set who ⟨x1,st1,bo1⟩,A⟩):=SyOk.set (y:=⟨now,sched,next,.slice (some ⟨bs0,os0,none⟩) S.length c1,vA,own,S,A⟩) (OK.out.mono (Nat.le_succ s)) OK4.out;replace k:Hid (St _ _ _ [(b36,zSy,_),(c36,SyC ⟨.slice (some ⟨bp0,op0,none⟩) lP.length c2,lP,fr,.slice A3 lW.length c3,lW,wl,vC,lC,vI,lI,il⟩ ⟨now,sched,next,v5,vA,own,S.set who ⟨x1,st1,bo1⟩,A⟩,_)] _ _ _):=k;clear ho1 hki hkc hkp hkq HR HRP;go_wp2_with((with_reducible refine zz ?_);refine lda k rfl rfl .a1 (by with_reducible assumption) ?_);refine(hsends_any ⟨.slice (some ⟨bp0,op0,none⟩) lP.length c2,lP,fr,.slice A3 lW.length c3,lW,wl,vC,lC,vI,lI,il⟩ (s+1) m ⟨now,sched,next,v5,vA,own,S.set who ⟨x1,st1,bo1⟩,A⟩ who _ _ k.out.lt k.out.fact HP.out OKs.out hm (by dsimp only;rw[List.length_set];exact HLT.out)).mono ?_;rintro e W6 ⟨y2,rfl,hG2,hok2,htu2,hb2⟩;have hoy:=qw hG2;have OK2:=Lib.hid hok2;have TU:=Lib.hid htu2;replace k:=zj ((k.out.call hb2).turn (fun _=>hG2) (xp _ _ _));clear hb2 hG2 hok2 htu2
 go_upto_region 3 with((with_reducible refine zx ?_);refine soa k rfl rfl rfl .a1 (by rfl) (by with_reducible assumption) (by assumption) ?_;clear k;intro W k)
 replace k:Hid (St _ _ _ [(b36,zSy,_),(c36,SyC ⟨.slice (some ⟨bp0,op0,none⟩) lP.length c2,lP,fr,.slice A3 lW.length c3,lW,wl,vC,lC,vI,lI,il⟩ y2,_)] _ _ _):=k;obtain⟨now2,sched2,next2,vS2,vA2,own2,S2,B2⟩:=y2;obtain⟨D1,d1,f1,hd1,hdm1⟩:=k.out.fact.2.1.len;dsimp only at f1 hd1;rw[List.length_map] at f1 hd1;subst f1;have hS2l:S2.length=S.length:=by have:=TU.out.2.2.2.2.1;simpa using this
 have hlt2:who<S2.length:=by rw[hS2l];exact HLT.out
 obtain⟨z2,hz2⟩: ∃z,S2[who]? =some z:=⟨_,List.getElem?_eq_getElem hlt2⟩;have hr2:(S2.map seC)[who]? =some (seC z2):=by rw[List.getElem?_map,hz2];rfl
 have hwa:=(OK2.out.seat who z2 hz2).ok.want;obtain⟨wa,hwae⟩: ∃a,z2.x.want=a:=⟨_,rfl⟩;have hj2:(seC z2)[15]? =some (.int .i64 wa):=by rw[<-hwae];rfl
 rw[hwae] at hwa;obtain⟨bs2,os2,eD1,_⟩:=k.out.fact.2.1.row hr2 (by decide);subst eD1;have HD:=zj k.out.fact.2.1;have HR2:=Lib.hid hr2;have HJ2:=Lib.hid hj2;have hki:(who:Int)<S2.length:=by omega
 have hkc:(who:Int)<d1:=by omega
 have hw3:IntKind.i64.wrap (wa-3)=wa-3:=xg (by omega) (by omega);clear hr2 hj2 hwae hz2 hS2l hlt2
 go_upto_region 4 with(first|((with_reducible refine zz ?_);refine xX rfl rfl HD.out HR2.out (by decide) 15 HJ2.out rfl ⟨_,rfl,by first|rfl|omega⟩ (Tryz.isAgg3 _) ?_)|((with_reducible refine zz ?_);refine ld1 k rfl rfl .a1 (by rfl) ?_))
 clear HD HR2 HJ2;have hlW:(lW.length:Int)=wl.length:=by have:=HWL.out;omega
 have hsz2:(SyC ⟨.slice (some ⟨bp0,op0,none⟩) lP.length c2,lP,fr,.slice A3 lW.length c3,lW,wl,vC,lC,vI,lI,il⟩ ⟨now2,sched2,next2,.slice (some ⟨bs2,os2,none⟩) S2.length d1,vA2,own2,S2,B2⟩).size=11:=rfl;have hfin:Hid (HCycS ⟨.slice (some ⟨bp0,op0,none⟩) lP.length c2,lP,fr,.slice A3 lW.length c3,lW,wl,vC,lC,vI,lI,il⟩ who ⟨now,sched,next,.slice (some ⟨bs0,os0,none⟩) S.length c1,vA,own,S,A⟩ ⟨now2,sched2,next2,.slice (some ⟨bs2,os2,none⟩) S2.length d1,vA2,own2,S2,B2⟩):=zj (hcyc_rel (y:=⟨now,sched,next,.slice (some ⟨bs0,os0,none⟩) S.length c1,vA,own,S,A⟩) (y2:=⟨now2,sched2,next2,.slice (some ⟨bs2,os2,none⟩) S2.length d1,vA2,own2,S2,B2⟩) (v:=v5) (nx:=next2) HZ.out HC.out TU.out);by_cases hw0:who=0
 ·have dw:((who:Int)==0)=true:=by rw[beq_iff_eq];omega
  clear hw0;by_cases hge:0<=wa-3
  ·have dge:decide (0<=wa-3)=true:=decide_eq_true hge
   by_cases hll:wa-3<lW.length
   ·have dll:decide (wa-3<(lW.length:Int))=true:=decide_eq_true hll
    have hone:Hid (wl.length=1->wa-3=0):=fun e=>by omega
    go_upto_region 5 with(first|((with_reducible refine zp ?_);first|refine zg rfl rfl rfl (by with_reducible rfl) ?_)|((with_reducible refine zz ?_);refine ld1 k rfl rfl .a1 (by rfl) ?_))
    go_upto_region 6 with(first|((with_reducible refine zx ?_);refine yE k (E:=SyC ⟨.slice (some ⟨bp0,op0,none⟩) lP.length c2,lP,fr,.slice A3 lW.length c3,lW,wl,vC,lC,vI,lI,il⟩ ⟨now2,sched2,wa-3,.slice (some ⟨bs2,os2,none⟩) S2.length d1,vA2,own2,S2,B2⟩) (G':=SyG ⟨.slice (some ⟨bp0,op0,none⟩) lP.length c2,lP,fr,.slice A3 lW.length c3,lW,wl,vC,lC,vI,lI,il⟩ (m+8) ⟨now2,sched2,wa-3,.slice (some ⟨bs2,os2,none⟩) S2.length d1,vA2,own2,S2,B2⟩) rfl rfl rfl rfl .a1 (by rfl) (by rfl) (xp _ _ _) (fun X W h=>h) ?_;clear k;intro W k)|fail)
    replace k:Hid (St _ _ _ [(b36,zSy,_),(c36,SyC ⟨.slice (some ⟨bp0,op0,none⟩) lP.length c2,lP,fr,.slice A3 lW.length c3,lW,wl,vC,lC,vI,lI,il⟩ ⟨now2,sched2,wa-3,.slice (some ⟨bs2,os2,none⟩) S2.length d1,vA2,own2,S2,B2⟩,_)] _ _ _):=k;have hoz:=qw k.out.fact;have hsz3:(SyC ⟨.slice (some ⟨bp0,op0,none⟩) lP.length c2,lP,fr,.slice A3 lW.length c3,lW,wl,vC,lC,vI,lI,il⟩ ⟨now2,sched2,wa-3,.slice (some ⟨bs2,os2,none⟩) S2.length d1,vA2,own2,S2,B2⟩).size=11:=rfl;go_wp2_with(first|((with_reducible refine zz ?_);refine lda k rfl rfl .a1 (by with_reducible assumption) ?_)|((with_reducible refine zx ?_);refine soa k rfl rfl rfl .a0 (by with_reducible assumption) (by rfl) (by assumption) ?_;clear k;intro W k));exact bodyPost_ret (yj rfl _ rfl (yx k.out 0 rfl 36 rfl rfl)) rfl ⟨_,rfl,k.out.out,SyOk.next (y:=⟨now2,sched2,next2,.slice (some ⟨bs2,os2,none⟩) S2.length d1,vA2,own2,S2,B2⟩) OK2.out hone.out,hfin.out,k.out.end⟩
   ·have dll:decide (wa-3<(lW.length:Int))=false:=decide_eq_false hll
    go_wp2_with(first|((with_reducible refine zp ?_);first|refine zg rfl rfl rfl (by with_reducible rfl) ?_)|((with_reducible refine zz ?_);first|(refine ld1 k rfl rfl .a1 (by rfl) ?_)|(refine lda k rfl rfl .a1 (by with_reducible assumption) ?_))|((with_reducible refine zx ?_);refine soa k rfl rfl rfl .a0 (by with_reducible assumption) (by rfl) (by assumption) ?_;clear k;intro W k));exact bodyPost_ret (yj rfl _ rfl (yx k.out 0 rfl 36 rfl rfl)) rfl ⟨_,rfl,k.out.out,OK2.out,hfin.out,k.out.end⟩
  ·have dge:decide (0<=wa-3)=false:=decide_eq_false hge
   go_wp2_with(first|((with_reducible refine zp ?_);first|go_big_skip|refine zg rfl rfl rfl (by with_reducible rfl) ?_)|((with_reducible refine zz ?_);refine lda k rfl rfl .a1 (by with_reducible assumption) ?_)|((with_reducible refine zx ?_);refine soa k rfl rfl rfl .a0 (by with_reducible assumption) (by rfl) (by assumption) ?_;clear k;intro W k));exact bodyPost_ret (yj rfl _ rfl (yx k.out 0 rfl 36 rfl rfl)) rfl ⟨_,rfl,k.out.out,OK2.out,hfin.out,k.out.end⟩
 ·have dw:((who:Int)==0)=false:=by rw[beq_eq_false_iff_ne];omega
  go_wp2_with(first|((with_reducible refine zz ?_);refine lda k rfl rfl .a1 (by with_reducible assumption) ?_)|((with_reducible refine zx ?_);refine soa k rfl rfl rfl .a0 (by with_reducible assumption) (by rfl) (by assumption) ?_;clear k;intro W k));exact bodyPost_ret (yj rfl _ rfl (yx k.out 0 rfl 36 rfl rfl)) rfl ⟨_,rfl,k.out.out,OK2.out,hfin.out,k.out.end⟩
end
theorem wrap_u64{z:Int}(h0:0<=z)(h1:z<=9223372036854775807):IntKind.u64.wrap z=z:=by
 simp only[IntKind.wrap];first|omega|(simp[IntKind.bits,IntKind.signed];omega)
theorem cycle_any(vP:Value)(fr:Int)(vW vC:Value)(q:Int)(w:World)(hf0:1<=fr)(hf1:fr<=4096)(hq0:0<=q)(hq1:q<=2000000):
  Calls Tryz.prog 39 #[.agg (PLC vP fr vW vC),.int .u64 q] w fun e w'=>e= .returned (.int .i64 (q% fr))/\Below w.heap.size w w':=by
 have k:Hid (St (fun _=>False) (fun _=>False) w [] (fun _ _=>True) (fun _=>False) w):=St.begin (fun _ h=>h.elim) trivial xZ;have hmx:max fr 1=fr:=by omega
 have hw1:IntKind.u64.wrap fr=fr:=wrap_u64 (by omega) (by omega);have htm:q.tmod fr=q% fr:=Int.tmod_eq_emod_of_nonneg hq0;have hr0:0<=q% fr:=Int.emod_nonneg _ (by omega);have hr1:q% fr<fr:=Int.emod_lt_of_pos _ (by omega);have hw2:IntKind.u64.wrap (q% fr)=q% fr:=wrap_u64 hr0 (by omega);have hw3:IntKind.i64.wrap (q% fr)=q% fr:=xg (by omega) (by omega);have hnz:(fr==0)=false:=by rw[beq_eq_false_iff_ne];omega
 go_enter Tryz.func39,Tryz.ntmps39;go_wp2_with(first|((with_reducible refine zz ?_);refine ld1 k rfl rfl .a0 (by rfl) ?_)|((with_reducible refine zI ?_);refine bxa k (T:=26) rfl ?_;clear k;intro c26 X W k));exact bodyPost_ret (zh rfl rfl) rfl ⟨by first|rfl|simp only[hmx,hw1,htm,hw2,hw3],k.out.end⟩
def WinsR(P:Array Value)(s:Int)(w:World)(e:Ending)(w':World):Prop:=
 ∃bt bp:Nat,e= .returned (.func (.func 56) #[] #[.pointer (some ⟨bt,0,none⟩),.pointer (some ⟨bp,0,none⟩)])/\w.heap.size<=bt/\w.heap.size<=bp/\bt≠bp/\Blk w' bt P 26/\Blk w' bp #[.int .i64 s] 3/\Below w.heap.size w w'
theorem pwins_any(vP:Value)(fr:Int)(vW vC:Value)(s:Int)(w:World):Calls Tryz.prog 40 #[.agg (PLC vP fr vW vC),.int .i64 s] w (WinsR (PLC vP fr vW vC) s w):=by
 go_enter Tryz.func40,Tryz.ntmps40;go_wp2_with(first|(refine yf rfl 26 (.tmp 0) rfl _ rfl (PLC vP fr vW vC) rfl ?_;intro W1 hk1 hb1 hz1)|(refine yf rfl 3 (.tmp 1) rfl _ rfl #[.int .i64 s] rfl ?_;intro W2 hk2 hb2 hz2))
 go_ret
 exact⟨_,_,rfl,Nat.le_refl _,by omega,by omega,hk1.below hb2,(by rw[hz1] at hk2;exact hk2),hb1.trans (hb2.mono (by omega))⟩
theorem hcall56(args:Array Value)(w:World):(callFunc 56 args).run Tryz.prog w= .ok (.enter 56 args) w:=yk (h:=⟨_,Tryz.func56,by kernel_rfl,by kernel_rfl⟩) args
end Go.Proofs.YtaccidkgnkmagaaGreatDoor.Top
