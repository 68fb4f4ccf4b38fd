/-
  Walks and laws of the whole machine: Step, Run. Conditions: each theorem names its own.
-/
import Derived.Test.YtaccidkgnkmagaaGreatDoorTs25
set_option maxRecDepth 16000
set_option maxHeartbeats 12800000
set_option linter.unusedVariables false
set_option linter.unusedSimpArgs false
namespace Go.Proofs.YtaccidkgnkmagaaGreatDoor.Top
section
open Go.RowKit Go.Proofs.YtaccidkgnkmagaaGreatDoor.Isa
theorem hgoes_any(p:Pn)(m:Nat)(y:Sy)(who:Nat)(z0:Se)(hz0:y.S[who]? =some z0)(X0:Nat->Prop)(w:World)(hX: ∀b,X0 b->b<w.heap.size)(hG:SyG p m y X0 w)(bs bw:Nat)(hbs:Blk w bs (SyC p y) 36)(hbw:Blk w bw #[.int .i64 who] 3):
  Calls Tryz.prog 22 (#[]++ #[.pointer (some ⟨bs,0,none⟩),.pointer (some ⟨bw,0,none⟩)]) w fun e w'=>e= .returned (.bool (z0.st==1))/\Below w.heap.size w w':=by
 obtain⟨now,sched,next,vS,vA,own,S,A⟩:=y;obtain⟨A1,c1,e1,hlc1,hcm1⟩:=hG.2.1.len;dsimp only at e1 hlc1 hz0;rw[List.length_map] at e1 hlc1;subst e1;have hlt:who<S.length:=(List.getElem?_eq_some_iff.1 hz0).1;have hr0:(S.map seC)[who]? =some (seC z0):=by rw[List.getElem?_map,hz0];rfl
 obtain⟨bs0,os0,eA1,_⟩:=hG.2.1.row hr0 (by decide);subst eA1;obtain⟨x0,st0,bo0⟩:=z0;have k:Hid (St (fun _=>False) X0 w [] (fun X W=>SyG p m ⟨now,sched,next,.slice (some ⟨bs0,os0,none⟩) S.length c1,vA,own,S,A⟩ X W) X0 w):=St.begin hX hG (xp _ _ _);have hki:(who:Int)<S.length:=by omega
 have hkc:(who:Int)<c1:=by omega
 have HR:=Lib.hid hr0;have HD:=zj k.out.fact.2.1;have q1:w.cell? ⟨bs,8,none⟩=some (.slice (some ⟨bs0,os0,none⟩) S.length c1):=hbs.rules.1 8;have q2:w.cell? ⟨bw,0,none⟩=some (.int .i64 who):=hbw.rules.1 0;clear hr0 hG hbs hbw hz0 hlt hlc1;go_enter Tryz.func22,Tryz.ntmps22;go_wp2_with((with_reducible refine zz ?_);refine xV rfl rfl HD.out HR.out (by decide) rfl ⟨_,rfl,by first|rfl|omega⟩ (Tryz.isAgg58 _) (Tryz.sizeOf58 _) ?_);refine(sgoes_any x0 st0 bo0 _).mono ?_;rintro e W1 ⟨rfl,hb⟩;replace k:=zj (k.out.call hb);go_wp2_with fail;exact bodyPost_ret (zh rfl rfl) rfl ⟨rfl,k.out.end⟩
structure SeatS (p:Pn) (i d:Nat) (z z':Se):Prop where
 lo:z.x.now<=z'.x.now
 hi:z'.x.now<=z.x.now+d
 run:z.st=1->z'.x.now=z.x.now+d
 halt:z.st=3->z'.st=3
 idle: ∀r,p.lP[i]? =some r->zQ r 1=1->z.x.gone=1->z.st=1->z'.x.gone=1/\z'.st=1
structure StepS (p:Pn) (y y':Sy):Prop where
 now:y'.now=y.now+1
 len:y'.S.length=y.S.length
 seat: ∀(i:Nat) (z':Se),y'.S[i]? =some z'-> ∃z,y.S[i]? =some z/\SeatS p i (ownI i (xy p.fr p.lP p.wl p.lC y.sched) (y.now% p.fr)) z z'
def HStepR(p:Pn)(s m:Nat)(y:Sy)(X:Nat->Prop)(w:World)(e:Ending)(w':World):Prop:=
 ∃y',e= .returned (.agg (SyC p y'))/\SyG p m y' X w' /\SyOk p s y' /\StepS p y y' /\Below w.heap.size w w'
theorem SeatS.same{p:Pn}{i:Nat}(z:Se):SeatS p i 0 z z:=⟨Int.le_refl _,by omega,fun _=>by omega,fun h=>h,fun _ _ _ h1 h2=>⟨h1,h2⟩⟩
theorem SeatS.near{p:Pn}{i:Nat}{z z':Se}(h:Near z z'):SeatS p i 0 z z':=by
 obtain⟨h1,h2,v,l,h3⟩:=h;have hn:z'.x.now=z.x.now:=by rw[h3]
 have hg:z'.x.gone=z.x.gone:=by rw[h3]
 exact⟨by omega,by omega,fun _=>by omega,fun h=>by omega,fun _ _ _ a b=>⟨by omega,by omega⟩⟩
def wake(z:Se):Se:=⟨z.x,if z.st=2 then 1 else z.st,z.bo⟩
theorem ownI_who{l:List (Array Value)}{q:Int}{i:Nat}{wh ho:Int}(h:atW q l=(wh,ho)):ownI i l q=if wh=(i:Int)/\ho=2 then 1 else 0:=by
 unfold ownI;rw[h];by_cases hc:wh=(i:Int)/\ho=2
 ·rw[if_pos (by rw[hc.1,hc.2]),if_pos hc]
 ·rw[if_neg (fun e=>hc (by injection e with e1 e2;exact⟨e1,e2⟩)),if_neg hc]
theorem set_get{S:List Se}{who i:Nat}{z z':Se}(h:(S.set who z)[i]? =some z'):(i=who/\z'=z/\who<S.length)\/(i≠who/\S[i]? =some z'):=by
 rw[List.getElem?_set] at h;split at h
 ·rename_i e
  split at h
  ·injection h with h
   exact .inl ⟨e.symm,h.symm,by omega⟩
  ·cases h
 ·rename_i hne
  exact .inr ⟨fun e=>hne e.symm,h⟩
def Woke(wh:Int)(S S1:List Se):Prop:=S1=S\/ ∃(who:Nat) (z0:Se),wh=who/\S[who]? =some z0/\S1=S.set who (wake z0)
theorem Zz{p:Pn}{y y':Sy}{wh ho:Int}{S1:List Se}(hat:atW (y.now% p.fr) (xy p.fr p.lP p.wl p.lC y.sched)=(wh,ho))(hn:y'.now=y.now+1)(hS:y'.S=S1)
  (h1:Woke wh y.S S1) (hgo:ho=2-> ∀(who:Nat) (z:Se),wh=who->S1[who]? =some z->z.st≠1):StepS p y y':=by
 subst hS;have hown: ∀(i:Nat) (z:Se),y'.S[i]? =some z->z.st=1->ownI i (xy p.fr p.lP p.wl p.lC y.sched) (y.now% p.fr)=0:=by
  intro i z hz h1;rw[ownI_who hat];split
  ·rename_i hc
   exact absurd h1 (hgo hc.2 i z hc.1 hz)
  ·rfl
 rcases h1 with e|⟨who,z0,hwh,hz0,e⟩
 ·refine⟨hn,by rw[e],fun i z' hz'=>⟨z',by rw[<-e];exact hz',Int.le_refl _,by omega,fun h=>by rw[hown i z' hz' h];omega,fun h=>h,fun _ _ _ a b=>⟨a,b⟩⟩⟩
 ·refine⟨hn,by rw[e];simp,fun i z' hz'=> ?_⟩
  have hz2:=hz';rw[e] at hz2;rcases set_get hz2 with⟨rfl,rfl,_⟩|⟨hne,hz3⟩
  ·refine⟨z0,hz0,Int.le_refl _,by show z0.x.now<=_;omega,fun h=> ?_,fun h=> ?_,fun _ _ _ a b=>⟨a,?_⟩⟩
   ·rw[hown i _ hz' (by show(if z0.st=2 then 1 else z0.st)=1;rw[if_neg (by omega)];exact h)]
    show z0.x.now=_;omega
   ·show(if z0.st=2 then 1 else z0.st)=3
    rw[if_neg (by omega)];exact h
   ·show(if z0.st=2 then 1 else z0.st)=1
    rw[if_neg (by omega)];exact b
  ·refine⟨z',hz3,Int.le_refl _,by omega,fun h=>by rw[hown i z' hz' h];omega,fun h=>h,fun _ _ _ a b=>⟨a,b⟩⟩
theorem stepS_goes{p:Pn}{y y1 y':Sy}{who:Nat}{z1:Se}{S1:List Se}(hat:atW (y.now% p.fr) (xy p.fr p.lP p.wl p.lC y.sched)=((who:Int),2))(hS:y1.S=S1)
  (h1:S1=y.S\/ ∃(z0:Se),y.S[who]? =some z0/\S1=y.S.set who (wake z0)) (hz1:S1[who]? =some z1) (hst:z1.st=1) (hc:HCycS p who y1 y') (y2:Sy) (h2:y2.S=y'.S) (hn2:y2.now=y.now+1):StepS p y y2:=by
 obtain⟨hc1,hc2,hc3⟩:=hc;refine⟨hn2,by rw[h2,hc2,hS];rcases h1 with e|⟨z0,_,e⟩<;>simp[e],fun i z' hz'=> ?_⟩;rw[h2] at hz';obtain⟨z,e1,e2,e3⟩:=hc3 i z' hz';rw[hS] at e1;rw[ownI_who hat];by_cases hi:i=who
 ·subst hi
  have e4:=e3 rfl;have ez:z=z1:=by rw[hz1] at e1;injection e1 with e1;exact e1.symm
  subst ez;rw[if_pos ⟨rfl,rfl⟩];rcases h1 with e|⟨z0,hz0,e⟩
  ·refine⟨z,by rw[<-e];exact hz1,by have:=e4.1;omega,by have:=e4.1;omega,fun _=>by have:=e4.1;omega,fun h=>by omega,fun r hr ha hg hs=>e4.2 r hr ha hg⟩
  ·have hw:z=wake z0:=by
    rw[e] at hz1;rcases set_get hz1 with⟨_,h,_⟩|⟨h,_⟩
    ·exact h
    ·exact absurd rfl h
   subst hw;have hx:(wake z0).x=z0.x:=rfl;rw[CycS,hx] at e4;refine⟨z0,hz0,by have:=e4.1;omega,by have:=e4.1;omega,fun _=>by have:=e4.1;omega,fun h=> ?_,fun r hr ha hg hs=>e4.2 r hr ha hg⟩;have hst':(if z0.st=2 then(1:Int) else z0.st)=1:=hst;rw[if_neg (by omega)] at hst';omega
 ·rw[if_neg (by intro h;exact hi (by have:=h.1;omega))]
  have hnr:=e2 hi;rcases h1 with e|⟨z0,hz0,e⟩
  ·rw[e] at e1
   exact⟨z,e1,SeatS.near hnr⟩
  ·rw[e] at e1
   rcases set_get e1 with⟨h,_⟩|⟨_,h⟩
   ·exact absurd h hi
   ·exact⟨z,h,SeatS.near hnr⟩
theorem hsg{S1 S:List Se}{who:Nat}(h:Woke who S S1):S1=S\/ ∃z0,S[who]? =some z0/\S1=S.set who (wake z0):=by
 rcases h with h|⟨i,z,h1,h2,h3⟩
 ·exact .inl h
 ·obtain rfl:who=i:=by omega
  exact .inr ⟨z,h2,h3⟩
theorem still_not{S1:List Se}{who:Nat}{z1:Se}(hz:S1[who]? =some z1)(hn: ¬(z1.st=1))(i:Nat)(z:Se)(hi:(who:Int)=i)(h:S1[i]? =some z):z.st≠1:=by
 obtain rfl:who=i:=by omega
 rw[hz] at h;injection h with h;subst h;exact hn
theorem SyOk.own{p:Pn}{s:Nat}{y:Sy}{o:Int}(h:SyOk p s y):SyOk p s {y with own:=o}:=⟨h.Sl,h.Al,h.seat,h.now,h.one⟩
theorem SeOk.wake{p:Pn}{s i:Nat}{z:Se}(h:SeOk p s i z):SeOk p s i (wake z):=
 ⟨h.ok,h.tr,h.ins,h.im,h.bo,by show(if z.st=2 then(1:Int) else z.st)=1\/(if z.st=2 then(1:Int) else z.st)=2\/(if z.st=2 then(1:Int) else z.st)=3;split<;>have:=h.st<;>omega,h.now⟩
theorem SyOk.tick{p:Pn}{s:Nat}{y:Sy}(h:SyOk p s y){a:Int}(ha:a=y.now+1)(hs:y.now+1<=s):SyOk p s {y with now:=a}:=⟨h.Sl,h.Al,h.seat,by subst ha;exact⟨by have:=h.now;show 0<=y.now+1;omega,hs⟩,h.one⟩
theorem SyOk.turn{p:Pn}{s:Nat}{y:Sy}(h:SyOk p s y):SyOk p s {y with sched:=y.next}:=⟨h.Sl,h.Al,h.seat,h.now,fun e=>⟨(h.one e).2,(h.one e).2⟩⟩
theorem hstep_any(p:Pn)(s m:Nat)(y:Sy)(X0:Nat->Prop)(w:World)(hX: ∀b,X0 b->b<w.heap.size)(hG:SyG p m y X0 w)(hP:PnT p)(hok:SyOk p s y)(hs:s<=700)(hm:m<=100000)(hT:Tab w):
  Calls Tryz.prog 9 #[.agg (SyC p y)] w (HStepR p (s+1) (m+8) y X0 w):=by
 obtain⟨now,sched,next,vS,vA,own,S,A⟩:=y;obtain⟨vP,lP,fr,vW,lW,wl,vC,lC,vI,lI,il⟩:=p;obtain⟨A1,c1,e1,hlc1,hcm1⟩:=hG.2.1.len;dsimp only at e1 hlc1;rw[List.length_map] at e1 hlc1;subst e1;unfold maxLen at hcm1;have hck:=vx hP.ok;dsimp only at hck;have hf0:1<=fr:=hck.2.2.2.2.2.1;have hf1:fr<=4096:=hck.2.2.2.2.2.2.1;have hSl:=hok.Sl;dsimp only at hSl;have hS8:S.length<=1000000:=by omega
 have hn0:=hok.now.1;have hn1:=hok.now.2;dsimp only at hn0 hn1;have hwn:IntKind.u64.wrap (now+1)=now+1:=wrap_u64 (by omega) (by omega);have hwf:IntKind.u64.wrap fr=fr:=wrap_u64 (by omega) (by omega);have htm:(now+1).tmod fr=(now+1)% fr:=Int.tmod_eq_emod_of_nonneg (by omega);have hr0:0<=(now+1)% fr:=Int.emod_nonneg _ (by omega);have hr1:(now+1)% fr<fr:=Int.emod_lt_of_pos _ (by omega);have hwr:IntKind.u64.wrap ((now+1)% fr)=(now+1)% fr:=wrap_u64 hr0 (by omega);have hnz:(fr==0)=false:=by rw[beq_eq_false_iff_ne];omega
 have hfp:decide (0<fr)=true:=decide_eq_true (by omega);have k:Hid (St (fun _=>False) X0 w [] (SyG ⟨vP,lP,fr,vW,lW,wl,vC,lC,vI,lI,il⟩ m ⟨now,sched,next,.slice A1 S.length c1,vA,own,S,A⟩) X0 w):=St.begin hX hG (xp _ _ _);have HP:=Lib.hid hP;have OK:=Lib.hid hok;have HT:=Lib.hid hT;have HSL:=Lib.hid hSl;clear hG hP hok hT hSl hck;go_enter Tryz.func9,Tryz.ntmps9
 go_upto_region 1 with(first|((with_reducible refine zI ?_);refine bxa k (T:=36) rfl ?_;clear k;intro c36 X W k)|((with_reducible refine zf ?_);refine ala k Tryz.zeroValue36 ?_;clear k;intro b36 X W k))
 replace k:Hid (St _ _ _ [(b36,zSy,_),(c36,_,_)] _ _ _):=k;go_wp2_with((with_reducible refine zz ?_);first|(refine ld1 k rfl rfl .a1 (by rfl) ?_)|(refine ldp k rfl rfl .a1 (D:= #[_,_,_,_]) (by rfl) (by rfl) ?_));refine(wat_any vP lP fr vW lW wl vC lC sched now _ _ k.out.lt k.out.fact.1.1 HP.out.T hf0 hf1 hn0 (by omega)).mono ?_;rintro e W1 ⟨rfl,hb⟩;replace k:=zj (k.out.call hb);clear hb;obtain⟨wh,ho,hat⟩: ∃a b,atW (now% fr) (xy fr lP wl lC sched)=(a,b):=⟨_,_,rfl⟩;rw[hat];have HAT:=Lib.hid hat;clear hat
 go_upto_region 2 with(first|((with_reducible refine zx ?_);refine so1 k rfl rfl rfl (by rfl) .a0 (by rfl) rfl ?_;clear k;intro W k)|((with_reducible refine zf ?_);refine al1 k Tryz.zeroValue3 rfl ?_;clear k;intro b3 X W k))
 replace k:Hid (St _ _ _ [(b3,#[.int .i64 wh],_),(b36,zSy,_),(c36,SyC ⟨vP,lP,fr,vW,lW,wl,vC,lC,vI,lI,il⟩ ⟨now,sched,next,.slice A1 S.length c1,vA,own,S,A⟩,_)] _ _ _):=k
 go_upto_region 3 with(first|((with_reducible refine zx ?_);refine yE k (E:=SyC ⟨vP,lP,fr,vW,lW,wl,vC,lC,vI,lI,il⟩ ⟨now,sched,next,.slice A1 S.length c1,vA,-1,S,A⟩) (G':=SyG ⟨vP,lP,fr,vW,lW,wl,vC,lC,vI,lI,il⟩ m ⟨now,sched,next,.slice A1 S.length c1,vA,-1,S,A⟩) rfl rfl rfl rfl .a2 (by rfl) (by rfl) (xp _ _ _) (fun X W h=>h) ?_;clear k;intro W k)|fail)
 replace k:Hid (St _ _ _ [(b3,#[.int .i64 wh],_),(b36,zSy,_),(c36,SyC ⟨vP,lP,fr,vW,lW,wl,vC,lC,vI,lI,il⟩ ⟨now,sched,next,.slice A1 S.length c1,vA,-1,S,A⟩,_)] _ _ _):=k;go_wp2_with((with_reducible refine zz ?_);first|(refine ld1 k rfl rfl .a2 (by rfl) ?_)|(refine ldp k rfl rfl .a2 (D:= #[_,_,_,_]) (by rfl) (by rfl) ?_));refine(wstarts_any vP lP fr vW lW wl vC lC sched now _ _ k.out.lt k.out.fact.1.1 HP.out.T hf0 hf1 hn0 (by omega)).mono ?_;rintro e W2 ⟨rfl,hb⟩;replace k:=zj (k.out.call hb);clear hb;cases hsta:jQ (now% fr) (xy fr lP wl lC sched) with
 |true=>
  obtain⟨rw0,hrw0,hrw1⟩:=starts_at (fun r hr=>(gb HP.out.T r hr).2.2.2.2.1) hsta;have hwo:=gb HP.out.T rw0 hrw0;rw[HAT.out] at hrw1;dsimp only at hrw1 hwo;obtain⟨who,hwho⟩: ∃n:Nat,wh=(n:Int):=⟨wh.toNat,by omega⟩;subst hwho;have hlt:who<S.length:=by have:=HSL.out;omega
  clear hrw0 hrw1 hwo hsta;obtain⟨z0,hz0⟩: ∃z,S[who]? =some z:=⟨_,List.getElem?_eq_getElem hlt⟩;obtain⟨x0,st0,bo0⟩:=z0;have hrr:(S.map seC)[who]? =some (SC x0 st0 bo0):=by rw[List.getElem?_map,hz0];rfl
  obtain⟨bs0,os0,eA1,_⟩:=k.out.fact.2.1.row hrr (by decide);subst eA1;have HR:=Lib.hid hrr;have HZ:=Lib.hid hz0;have HLT:=Lib.hid hlt;have hki:(who:Int)<S.length:=by omega
  have hkc:(who:Int)<c1:=by omega
  have ho1:yZ (SC x0 st0 bo0):=seC_one k.out.fact _ (List.mem_of_getElem? hrr);have hsz:(SC x0 st0 bo0).size=19:=rfl;clear hrr hz0 hlt
  go_upto_region 4 with fail
  have HPer:=Lib.hid k.out.per;refine zt k 11 12 (by kernel_rfl) rfl ?_;clear k;intro W k;refine zq [(0,some 24,[11]),(1,some 25,[11]),(2,some 26,[11]),(3,some 27,[11]),(4,some 28,[11]),(5,some 29,[11]),(6,some 30,[11]),(7,some 31,[11])] [?v1_0,?v1_1,?v1_2,?v1_3,?v1_4,?v1_5,?v1_6,?v1_7] 4 (by kernel_rfl) ⟨_,k.out⟩ ?l1 ?h1;case l1=>
   intro w' hSw;iterate 7
    refine lkw rfl rfl (by rfl) ?_ ?_
    ·first|((with_reducible refine yw ?_);first|exact hSw.l1 rfl rfl (by repeat constructor) (by rfl))|(go_simp<;>with_reducible rfl)
    try simp only[Act.put,tS,t0,t1]
   refine lkw rfl rfl (by rfl) ?_ ?_
   ·refine yG rfl ?_
    obtain⟨X',hX'⟩:=hSw.get;exact jJ hX'.2.1 HR.out (by decide) (Tryz.isAgg58 _) (Tryz.sizeOf58 _)
   try simp only[Act.put,tS,t0,t1]
   trivial
  simp only[zw,zk,Act.put,tS,t0,t1];refine w1 8 3 (by kernel_rfl) rfl ?_;go_wp2_with fail;have hks:=k.out.fact.2.2.1 ⟨x0,st0,bo0⟩ (List.mem_of_getElem? HZ.out);refine(swindow_any x0 st0 bo0 _ _ k.out.lt hks).mono ?_;rintro e W4 ⟨rfl,hb4⟩;obtain⟨st1,hst1⟩: ∃a,(if st0=2 then(1:Int) else st0)=a:=⟨_,rfl⟩;rw[hst1];have HWK:Hid (wake ⟨x0,st0,bo0⟩=⟨x0,st1,bo0⟩):=by rw[wake,hst1];exact zj rfl
  clear hst1;have ho4:yZ (SC x0 st1 bo0):=Zb hks _ bo0;replace k:=zj (k.out.call hb4);clear hb4 hks;go_wp2_with fail;refine zd (yz ⟨_,k.out⟩) ?_;refine w1 9 2 (by kernel_rfl) rfl ?_;go_wp2_with fail;refine(Zy _ (S.map seC) who (SC x0 st1 bo0) _ _ k.out.fact.2.1 (seC_one k.out.fact) (by rw[List.length_map];exact hS8) k.out.lt (by rw[List.length_map];exact HLT.out) rfl ho4).mono ?_;rintro e W5 ⟨v5,rfl,hsl5,hb5⟩;have hv5:=hsl5.one;replace k:=zj ((k.out.call hb5).add hsl5 (zb _ _ _));clear hb5 hsl5;go_wp2_with fail;refine zd (yz ⟨_,k.out.turn And.left HPer.out⟩) ?_;refine zq [(10,some 34,[11])] [?v2_10] 1 (by kernel_rfl) ⟨_,k.out.turn And.left HPer.out⟩ ?l2 ?h2;case l2=>
   intro w' hSw;refine lkw rfl rfl (by rfl) ?_ ?_
   ·go_simp<;>with_reducible rfl
   try simp only[Act.put,tS,t0,t1]
   trivial
  simp only[zw,zk,Act.put,tS,t0,t1];refine w1 11 0 (by kernel_rfl) rfl ?_;go_wp2_with((with_reducible refine zx ?_);refine yE k (E:=SyC ⟨vP,lP,fr,vW,lW,wl,vC,lC,vI,lI,il⟩ ⟨now,sched,next,v5,vA,-1,(S.set who ⟨x0,st1,bo0⟩),A⟩) (G':=SyG ⟨vP,lP,fr,vW,lW,wl,vC,lC,vI,lI,il⟩ m ⟨now,sched,next,v5,vA,-1,(S.set who ⟨x0,st1,bo0⟩),A⟩) rfl rfl rfl hv5 .a2 (by rfl) (by rfl) (xp _ _ _) (fun X W h=>SyG.setS (y:=⟨now,sched,next,.slice (some ⟨bs0,os0,none⟩) S.length c1,vA,-1,S,A⟩) (z':=⟨x0,st1,bo0⟩) h.1 h.2 (h.1.2.2.1 ⟨x0,st0,bo0⟩ (List.mem_of_getElem? HZ.out))) ?_;clear k;intro W k);refine zd (zJ rfl) ?_;refine zv (by kernel_rfl) ?_ _;clear HPer;replace k:Hid (St _ _ _ [(b3,#[.int .i64 who],_),(b36,zSy,_),(c36,SyC ⟨vP,lP,fr,vW,lW,wl,vC,lC,vI,lI,il⟩ ⟨now,sched,next,v5,vA,-1,(S.set who ⟨x0,st1,bo0⟩),A⟩,_)] _ _ _):=k;have OKs:Hid (SyOk ⟨vP,lP,fr,vW,lW,wl,vC,lC,vI,lI,il⟩ s ⟨now,sched,next,v5,vA,-1,(S.set who ⟨x0,st1,bo0⟩),A⟩):=SyOk.set (y:=⟨now,sched,next,.slice (some ⟨bs0,os0,none⟩) S.length c1,vA,-1,S,A⟩) OK.out.own (by rw[<-HWK.out];exact(OK.out.seat who _ HZ.out).wake);have HS1:Hid (Woke who S (S.set who ⟨x0,st1,bo0⟩)):=zj (.inr ⟨who,_,rfl,HZ.out,by rw[HWK.out]⟩);clear OK HSL ho1 hsz hki hkc HR HZ HLT ho4 HWK;obtain⟨D1,d1,f1,hd1,hdm1⟩:=k.out.fact.2.1.len;dsimp only at f1 hd1;rw[List.length_map] at f1 hd1;try rw[List.length_set] at f1 hd1
  try subst f1
  try clear f1
  unfold maxLen at hdm1
  go_upto_block 0 with fail
  refine zy (fun Q0 hq0=> ?_);refine wp_seq_k (fun K1 hk1=> ?_);refine zy (fun Q1 hq1=> ?_);refine wp_seq_k (fun K2 hk2=> ?_);refine zy (fun Q2 hq2=> ?_);refine wp_seq_k (fun K3 hk3=> ?_);refine zy (fun Q3 hq3=> ?_);by_cases hho:ho=2
  ·subst hho
   obtain⟨rw0,hrw0,hrw1⟩:=at_own (by rw[HAT.out]);have hwo:=gb HP.out.T rw0 hrw0;rw[HAT.out] at hrw1;dsimp only at hrw1 hwo;skip;have hlt1:who<(S.set who ⟨x0,st1,bo0⟩).length:=by have:=OKs.out.Sl;dsimp only at this;omega
   clear hrw0 hrw1 hwo;obtain⟨z1,hz1⟩: ∃z,((S.set who ⟨x0,st1,bo0⟩))[who]? =some z:=⟨_,List.getElem?_eq_getElem hlt1⟩
   go_upto_region 7 with fail
   go_wp2_with fail;refine(hgoes_any ⟨vP,lP,fr,vW,lW,wl,vC,lC,vI,lI,il⟩ m ⟨now,sched,next,(.slice D1 S.length d1),vA,-1,(S.set who ⟨x0,st1,bo0⟩),A⟩ who z1 hz1 _ _ k.out.lt k.out.fact _ _ (k.out.blk (i:=2) rfl) (k.out.blk (i:=0) rfl)).mono ?_;rintro e W3 ⟨rfl,hb⟩;replace k:=zj (k.out.call hb);have HZ1:=Lib.hid hz1;clear hb hz1 hlt1;have hsz11:(SyC ⟨vP,lP,fr,vW,lW,wl,vC,lC,vI,lI,il⟩ ⟨now,sched,next,(.slice D1 S.length d1),vA,-1,(S.set who ⟨x0,st1,bo0⟩),A⟩).size=11:=rfl;by_cases hs1:z1.st=1
   ·have ds1:(z1.st==1)=true:=by rw[beq_iff_eq];exact hs1
    have HS2:=Lib.hid hs1;clear hs1;go_wp2_with((with_reducible refine zz ?_);first|(refine ld1 k rfl rfl (by repeat constructor) (by rfl) ?_)|(refine lda k rfl rfl .a2 (by with_reducible assumption) ?_));refine(hcycle_any ⟨vP,lP,fr,vW,lW,wl,vC,lC,vI,lI,il⟩ s m ⟨now,sched,next,(.slice D1 S.length d1),vA,-1,(S.set who ⟨x0,st1,bo0⟩),A⟩ who _ _ k.out.lt k.out.fact HP.out OKs.out hs hm (jt HT.out k.out.only (fun h=>h)) z1 HZ1.out HS2.out).mono ?_;rintro e W4 ⟨y3,rfl,hG3,hok3,hcy3,hb⟩;have hoy:=qw hG3;replace k:=zj ((k.out.call hb).turn (fun _=>hG3) (xp _ _ _));obtain⟨now3,sched3,next3,vS3,vA3,own3,S3,B3⟩:=y3;obtain⟨⟨hq1,hq2,hq3⟩,hq4⟩:=hcy3;dsimp only at hq1 hq2 hq3;have hq1:=hq1.symm;have hq2:=hq2.symm;subst hq1 hq2 hq3;have OK3:=Lib.hid hok3;have CY:Hid (HCycS ⟨vP,lP,fr,vW,lW,wl,vC,lC,vI,lI,il⟩ who ⟨now,sched,next,(.slice D1 S.length d1),vA,-1,(S.set who ⟨x0,st1,bo0⟩),A⟩ ⟨now,sched,next3,vS3,vA3,-1,S3,B3⟩):=⟨⟨rfl,rfl,rfl⟩,hq4⟩;clear hb hG3 hok3 hq4
    go_upto_region 9 with((with_reducible refine zx ?_);refine soa k rfl rfl rfl .a2 (by rfl) (by with_reducible assumption) (by assumption) ?_;clear k;intro W k)
    replace k:Hid (St _ _ _ [(b3,#[.int .i64 who],_),(b36,zSy,_),(c36,SyC ⟨vP,lP,fr,vW,lW,wl,vC,lC,vI,lI,il⟩ ⟨now,sched,next3,vS3,vA3,-1,S3,B3⟩,_)] _ _ _):=k;have OKe:=OK3;have STE:Hid (∀y2:Sy,y2.S=S3->y2.now=now+1->StepS ⟨vP,lP,fr,vW,lW,wl,vC,lC,vI,lI,il⟩ ⟨now,sched,next,.slice (some ⟨bs0,os0,none⟩) S.length c1,vA,own,S,A⟩ y2):=fun y2 h2 hn2=>stepS_goes (y:=⟨now,sched,next,.slice (some ⟨bs0,os0,none⟩) S.length c1,vA,own,S,A⟩) (y1:=⟨now,sched,next,(.slice D1 S.length d1),vA,-1,(S.set who ⟨x0,st1,bo0⟩),A⟩) (y':=⟨now,sched,next3,vS3,vA3,-1,S3,B3⟩) HAT.out rfl (hsg HS1.out) HZ1.out HS2.out CY.out y2 h2 hn2
    go_upto_region 10 with(first|((with_reducible refine zx ?_);refine yE k (E:=SyC ⟨vP,lP,fr,vW,lW,wl,vC,lC,vI,lI,il⟩ ⟨now,sched,next3,vS3,vA3,(who:Int),S3,B3⟩) (G':=SyG ⟨vP,lP,fr,vW,lW,wl,vC,lC,vI,lI,il⟩ (m+8) ⟨now,sched,next3,vS3,vA3,(who:Int),S3,B3⟩) rfl rfl rfl rfl .a2 (by rfl) (by rfl) (xp _ _ _) (fun X W h=>h) ?_;clear k;intro W k)|((with_reducible refine zz ?_);refine ld1 k rfl rfl .a0 (by rfl) ?_))
    replace k:Hid (St _ _ _ [(b3,#[.int .i64 who],_),(b36,zSy,_),(c36,SyC ⟨vP,lP,fr,vW,lW,wl,vC,lC,vI,lI,il⟩ ⟨now,sched,next3,vS3,vA3,(who:Int),S3,B3⟩,_)] _ _ _):=k
    go_upto_region 11 with(first|((with_reducible refine zx ?_);refine yE k (E:=SyC ⟨vP,lP,fr,vW,lW,wl,vC,lC,vI,lI,il⟩ ⟨(now+1),sched,next3,vS3,vA3,(who:Int),S3,B3⟩) (G':=SyG ⟨vP,lP,fr,vW,lW,wl,vC,lC,vI,lI,il⟩ (m+8) ⟨(now+1),sched,next3,vS3,vA3,(who:Int),S3,B3⟩) rfl rfl rfl rfl .a2 (by rfl) (by rfl) (xp _ _ _) (fun X W h=>h) ?_;clear k;intro W k)|((with_reducible refine zz ?_);refine ld1 k rfl rfl .a2 (by rfl) ?_))
    replace k:Hid (St _ _ _ [(b3,_,_),(b36,zSy,_),(c36,SyC ⟨vP,lP,fr,vW,lW,wl,vC,lC,vI,lI,il⟩ ⟨(now+1),sched,next3,vS3,vA3,(who:Int),S3,B3⟩,_)] _ _ _):=k;by_cases hfz:(now+1)% fr=0
    ·have dfz:((now+1)% fr==0)=true:=by rw[beq_iff_eq];exact hfz
     clear hfz
     go_upto_region 12 with(first|((with_reducible refine zp ?_);first|refine zg rfl rfl rfl (by with_reducible rfl) ?_)|((with_reducible refine zz ?_);refine ld1 k rfl rfl .a2 (by rfl) ?_))
     go_upto_region 13 with(first|((with_reducible refine zx ?_);refine yE k (E:=SyC ⟨vP,lP,fr,vW,lW,wl,vC,lC,vI,lI,il⟩ ⟨(now+1),next3,next3,vS3,vA3,(who:Int),S3,B3⟩) (G':=SyG ⟨vP,lP,fr,vW,lW,wl,vC,lC,vI,lI,il⟩ (m+8) ⟨(now+1),next3,next3,vS3,vA3,(who:Int),S3,B3⟩) rfl rfl rfl rfl .a2 (by rfl) (by rfl) (xp _ _ _) (fun X W h=>h) ?_;clear k;intro W k)|((with_reducible refine zz ?_);refine ld1 k rfl rfl .a2 (by rfl) ?_))
     replace k:Hid (St _ _ _ [(b3,_,_),(b36,zSy,_),(c36,SyC ⟨vP,lP,fr,vW,lW,wl,vC,lC,vI,lI,il⟩ ⟨(now+1),next3,next3,vS3,vA3,(who:Int),S3,B3⟩,_)] _ _ _):=k;have hsz12:(SyC ⟨vP,lP,fr,vW,lW,wl,vC,lC,vI,lI,il⟩ ⟨(now+1),next3,next3,vS3,vA3,(who:Int),S3,B3⟩).size=11:=rfl;have hoz:=qw k.out.fact;go_wp2_with(first|((with_reducible refine zz ?_);refine lda k rfl rfl .a2 (by with_reducible assumption) ?_)|((with_reducible refine zx ?_);refine soa k rfl rfl rfl .a1 (by with_reducible assumption) (by rfl) (by assumption) ?_;clear k;intro W k));exact bodyPost_ret (yj rfl _ rfl (yx k.out 1 rfl 36 rfl rfl)) rfl ⟨_,rfl,k.out.out,SyOk.turn (y:=⟨(now+1),sched,next3,vS3,vA3,(who:Int),S3,B3⟩) (SyOk.tick (y:=⟨now,sched,next3,vS3,vA3,(who:Int),S3,B3⟩) OKe.out.own rfl (by dsimp only;omega)),STE.out _ rfl rfl,k.out.end⟩
    ·have dfz:((now+1)% fr==0)=false:=by rw[beq_eq_false_iff_ne];exact hfz
     clear hfz;have hsz12:(SyC ⟨vP,lP,fr,vW,lW,wl,vC,lC,vI,lI,il⟩ ⟨(now+1),sched,next3,vS3,vA3,(who:Int),S3,B3⟩).size=11:=rfl;have hoz:=qw k.out.fact;go_wp2_with(first|((with_reducible refine zp ?_);first|refine zg rfl rfl rfl (by with_reducible rfl) ?_)|((with_reducible refine zz ?_);first|(refine ld1 k rfl rfl .a2 (by rfl) ?_)|(refine lda k rfl rfl .a2 (by with_reducible assumption) ?_))|((with_reducible refine zx ?_);refine soa k rfl rfl rfl .a1 (by with_reducible assumption) (by rfl) (by assumption) ?_;clear k;intro W k));exact bodyPost_ret (yj rfl _ rfl (yx k.out 1 rfl 36 rfl rfl)) rfl ⟨_,rfl,k.out.out,SyOk.tick (y:=⟨now,sched,next3,vS3,vA3,(who:Int),S3,B3⟩) OKe.out.own rfl (by dsimp only;omega),STE.out _ rfl rfl,k.out.end⟩
   ·have ds1:(z1.st==1)=false:=by rw[beq_eq_false_iff_ne];exact hs1
    have ns1: ¬(z1.st=1):=hs1
    go_upto_region 9 with fail
    have OKe:Hid (SyOk ⟨vP,lP,fr,vW,lW,wl,vC,lC,vI,lI,il⟩ (s+1) ⟨now,sched,next,(.slice D1 S.length d1),vA,-1,(S.set who ⟨x0,st1,bo0⟩),A⟩):=OKs.out.mono (Nat.le_succ s);have STE:Hid (∀y2:Sy,y2.S=(S.set who ⟨x0,st1,bo0⟩)->y2.now=now+1->StepS ⟨vP,lP,fr,vW,lW,wl,vC,lC,vI,lI,il⟩ ⟨now,sched,next,.slice (some ⟨bs0,os0,none⟩) S.length c1,vA,own,S,A⟩ y2):=fun y2 h2 hn2=>Zz (y:=⟨now,sched,next,.slice (some ⟨bs0,os0,none⟩) S.length c1,vA,own,S,A⟩) HAT.out hn2 h2 HS1.out (fun _=>still_not HZ1.out ns1)
    go_upto_region 10 with(first|((with_reducible refine zx ?_);refine yE k (E:=SyC ⟨vP,lP,fr,vW,lW,wl,vC,lC,vI,lI,il⟩ ⟨now,sched,next,(.slice D1 S.length d1),vA,(who:Int),(S.set who ⟨x0,st1,bo0⟩),A⟩) (G':=SyG ⟨vP,lP,fr,vW,lW,wl,vC,lC,vI,lI,il⟩ m ⟨now,sched,next,(.slice D1 S.length d1),vA,(who:Int),(S.set who ⟨x0,st1,bo0⟩),A⟩) rfl rfl rfl rfl .a2 (by rfl) (by rfl) (xp _ _ _) (fun X W h=>h) ?_;clear k;intro W k)|((with_reducible refine zz ?_);refine ld1 k rfl rfl .a0 (by rfl) ?_))
    replace k:Hid (St _ _ _ [(b3,#[.int .i64 who],_),(b36,zSy,_),(c36,SyC ⟨vP,lP,fr,vW,lW,wl,vC,lC,vI,lI,il⟩ ⟨now,sched,next,(.slice D1 S.length d1),vA,(who:Int),(S.set who ⟨x0,st1,bo0⟩),A⟩,_)] _ _ _):=k
    go_upto_region 11 with(first|((with_reducible refine zx ?_);refine yE k (E:=SyC ⟨vP,lP,fr,vW,lW,wl,vC,lC,vI,lI,il⟩ ⟨(now+1),sched,next,(.slice D1 S.length d1),vA,(who:Int),(S.set who ⟨x0,st1,bo0⟩),A⟩) (G':=SyG ⟨vP,lP,fr,vW,lW,wl,vC,lC,vI,lI,il⟩ m ⟨(now+1),sched,next,(.slice D1 S.length d1),vA,(who:Int),(S.set who ⟨x0,st1,bo0⟩),A⟩) rfl rfl rfl rfl .a2 (by rfl) (by rfl) (xp _ _ _) (fun X W h=>h) ?_;clear k;intro W k)|((with_reducible refine zz ?_);refine ld1 k rfl rfl .a2 (by rfl) ?_))
    replace k:Hid (St _ _ _ [(b3,_,_),(b36,zSy,_),(c36,SyC ⟨vP,lP,fr,vW,lW,wl,vC,lC,vI,lI,il⟩ ⟨(now+1),sched,next,(.slice D1 S.length d1),vA,(who:Int),(S.set who ⟨x0,st1,bo0⟩),A⟩,_)] _ _ _):=k;by_cases hfz:(now+1)% fr=0
    ·have dfz:((now+1)% fr==0)=true:=by rw[beq_iff_eq];exact hfz
     clear hfz
     go_upto_region 12 with(first|((with_reducible refine zp ?_);first|refine zg rfl rfl rfl (by with_reducible rfl) ?_)|((with_reducible refine zz ?_);refine ld1 k rfl rfl .a2 (by rfl) ?_))
     go_upto_region 13 with(first|((with_reducible refine zx ?_);refine yE k (E:=SyC ⟨vP,lP,fr,vW,lW,wl,vC,lC,vI,lI,il⟩ ⟨(now+1),next,next,(.slice D1 S.length d1),vA,(who:Int),(S.set who ⟨x0,st1,bo0⟩),A⟩) (G':=SyG ⟨vP,lP,fr,vW,lW,wl,vC,lC,vI,lI,il⟩ m ⟨(now+1),next,next,(.slice D1 S.length d1),vA,(who:Int),(S.set who ⟨x0,st1,bo0⟩),A⟩) rfl rfl rfl rfl .a2 (by rfl) (by rfl) (xp _ _ _) (fun X W h=>h) ?_;clear k;intro W k)|((with_reducible refine zz ?_);refine ld1 k rfl rfl .a2 (by rfl) ?_))
     replace k:Hid (St _ _ _ [(b3,_,_),(b36,zSy,_),(c36,SyC ⟨vP,lP,fr,vW,lW,wl,vC,lC,vI,lI,il⟩ ⟨(now+1),next,next,(.slice D1 S.length d1),vA,(who:Int),(S.set who ⟨x0,st1,bo0⟩),A⟩,_)] _ _ _):=k;have hsz12:(SyC ⟨vP,lP,fr,vW,lW,wl,vC,lC,vI,lI,il⟩ ⟨(now+1),next,next,(.slice D1 S.length d1),vA,(who:Int),(S.set who ⟨x0,st1,bo0⟩),A⟩).size=11:=rfl;have hoz:=qw k.out.fact;go_wp2_with(first|((with_reducible refine zz ?_);refine lda k rfl rfl .a2 (by with_reducible assumption) ?_)|((with_reducible refine zx ?_);refine soa k rfl rfl rfl .a1 (by with_reducible assumption) (by rfl) (by assumption) ?_;clear k;intro W k));exact bodyPost_ret (yj rfl _ rfl (yx k.out 1 rfl 36 rfl rfl)) rfl ⟨_,rfl,k.out.out.mono (by omega),SyOk.turn (y:=⟨(now+1),sched,next,(.slice D1 S.length d1),vA,(who:Int),(S.set who ⟨x0,st1,bo0⟩),A⟩) (SyOk.tick (y:=⟨now,sched,next,(.slice D1 S.length d1),vA,(who:Int),(S.set who ⟨x0,st1,bo0⟩),A⟩) OKe.out.own rfl (by dsimp only;omega)),STE.out _ rfl rfl,k.out.end⟩
    ·have dfz:((now+1)% fr==0)=false:=by rw[beq_eq_false_iff_ne];exact hfz
     clear hfz;have hsz12:(SyC ⟨vP,lP,fr,vW,lW,wl,vC,lC,vI,lI,il⟩ ⟨(now+1),sched,next,(.slice D1 S.length d1),vA,(who:Int),(S.set who ⟨x0,st1,bo0⟩),A⟩).size=11:=rfl;have hoz:=qw k.out.fact;go_wp2_with(first|((with_reducible refine zp ?_);first|refine zg rfl rfl rfl (by with_reducible rfl) ?_)|((with_reducible refine zz ?_);first|(refine ld1 k rfl rfl .a2 (by rfl) ?_)|(refine lda k rfl rfl .a2 (by with_reducible assumption) ?_))|((with_reducible refine zx ?_);refine soa k rfl rfl rfl .a1 (by with_reducible assumption) (by rfl) (by assumption) ?_;clear k;intro W k));exact bodyPost_ret (yj rfl _ rfl (yx k.out 1 rfl 36 rfl rfl)) rfl ⟨_,rfl,k.out.out.mono (by omega),SyOk.tick (y:=⟨now,sched,next,(.slice D1 S.length d1),vA,(who:Int),(S.set who ⟨x0,st1,bo0⟩),A⟩) OKe.out.own rfl (by dsimp only;omega),STE.out _ rfl rfl,k.out.end⟩
  ·have dho:(ho==2)=false:=by rw[beq_eq_false_iff_ne];exact hho
   have nho: ¬(ho=2):=hho
   go_upto_region 10 with fail
   have OKe:Hid (SyOk ⟨vP,lP,fr,vW,lW,wl,vC,lC,vI,lI,il⟩ (s+1) ⟨now,sched,next,(.slice D1 S.length d1),vA,-1,(S.set who ⟨x0,st1,bo0⟩),A⟩):=OKs.out.mono (Nat.le_succ s);have STE:Hid (∀y2:Sy,y2.S=(S.set who ⟨x0,st1,bo0⟩)->y2.now=now+1->StepS ⟨vP,lP,fr,vW,lW,wl,vC,lC,vI,lI,il⟩ ⟨now,sched,next,.slice (some ⟨bs0,os0,none⟩) S.length c1,vA,own,S,A⟩ y2):=fun y2 h2 hn2=>Zz (y:=⟨now,sched,next,.slice (some ⟨bs0,os0,none⟩) S.length c1,vA,own,S,A⟩) HAT.out hn2 h2 HS1.out (fun h=>absurd h nho);replace k:Hid (St _ _ _ [(b3,#[.int .i64 who],_),(b36,zSy,_),(c36,SyC ⟨vP,lP,fr,vW,lW,wl,vC,lC,vI,lI,il⟩ ⟨now,sched,next,(.slice D1 S.length d1),vA,-1,(S.set who ⟨x0,st1,bo0⟩),A⟩,_)] _ _ _):=k
   go_upto_region 11 with(first|((with_reducible refine zx ?_);refine yE k (E:=SyC ⟨vP,lP,fr,vW,lW,wl,vC,lC,vI,lI,il⟩ ⟨(now+1),sched,next,(.slice D1 S.length d1),vA,-1,(S.set who ⟨x0,st1,bo0⟩),A⟩) (G':=SyG ⟨vP,lP,fr,vW,lW,wl,vC,lC,vI,lI,il⟩ m ⟨(now+1),sched,next,(.slice D1 S.length d1),vA,-1,(S.set who ⟨x0,st1,bo0⟩),A⟩) rfl rfl rfl rfl .a2 (by rfl) (by rfl) (xp _ _ _) (fun X W h=>h) ?_;clear k;intro W k)|((with_reducible refine zz ?_);refine ld1 k rfl rfl .a2 (by rfl) ?_))
   replace k:Hid (St _ _ _ [(b3,_,_),(b36,zSy,_),(c36,SyC ⟨vP,lP,fr,vW,lW,wl,vC,lC,vI,lI,il⟩ ⟨(now+1),sched,next,(.slice D1 S.length d1),vA,-1,(S.set who ⟨x0,st1,bo0⟩),A⟩,_)] _ _ _):=k;by_cases hfz:(now+1)% fr=0
   ·have dfz:((now+1)% fr==0)=true:=by rw[beq_iff_eq];exact hfz
    clear hfz
    go_upto_region 12 with(first|((with_reducible refine zp ?_);first|refine zg rfl rfl rfl (by with_reducible rfl) ?_)|((with_reducible refine zz ?_);refine ld1 k rfl rfl .a2 (by rfl) ?_))
    go_upto_region 13 with(first|((with_reducible refine zx ?_);refine yE k (E:=SyC ⟨vP,lP,fr,vW,lW,wl,vC,lC,vI,lI,il⟩ ⟨(now+1),next,next,(.slice D1 S.length d1),vA,-1,(S.set who ⟨x0,st1,bo0⟩),A⟩) (G':=SyG ⟨vP,lP,fr,vW,lW,wl,vC,lC,vI,lI,il⟩ m ⟨(now+1),next,next,(.slice D1 S.length d1),vA,-1,(S.set who ⟨x0,st1,bo0⟩),A⟩) rfl rfl rfl rfl .a2 (by rfl) (by rfl) (xp _ _ _) (fun X W h=>h) ?_;clear k;intro W k)|((with_reducible refine zz ?_);refine ld1 k rfl rfl .a2 (by rfl) ?_))
    replace k:Hid (St _ _ _ [(b3,_,_),(b36,zSy,_),(c36,SyC ⟨vP,lP,fr,vW,lW,wl,vC,lC,vI,lI,il⟩ ⟨(now+1),next,next,(.slice D1 S.length d1),vA,-1,(S.set who ⟨x0,st1,bo0⟩),A⟩,_)] _ _ _):=k;have hsz12:(SyC ⟨vP,lP,fr,vW,lW,wl,vC,lC,vI,lI,il⟩ ⟨(now+1),next,next,(.slice D1 S.length d1),vA,-1,(S.set who ⟨x0,st1,bo0⟩),A⟩).size=11:=rfl;have hoz:=qw k.out.fact;go_wp2_with(first|((with_reducible refine zz ?_);refine lda k rfl rfl .a2 (by with_reducible assumption) ?_)|((with_reducible refine zx ?_);refine soa k rfl rfl rfl .a1 (by with_reducible assumption) (by rfl) (by assumption) ?_;clear k;intro W k));exact bodyPost_ret (yj rfl _ rfl (yx k.out 1 rfl 36 rfl rfl)) rfl ⟨_,rfl,k.out.out.mono (by omega),SyOk.turn (y:=⟨(now+1),sched,next,(.slice D1 S.length d1),vA,-1,(S.set who ⟨x0,st1,bo0⟩),A⟩) (SyOk.tick (y:=⟨now,sched,next,(.slice D1 S.length d1),vA,-1,(S.set who ⟨x0,st1,bo0⟩),A⟩) OKe.out.own rfl (by dsimp only;omega)),STE.out _ rfl rfl,k.out.end⟩
   ·have dfz:((now+1)% fr==0)=false:=by rw[beq_eq_false_iff_ne];exact hfz
    clear hfz;have hsz12:(SyC ⟨vP,lP,fr,vW,lW,wl,vC,lC,vI,lI,il⟩ ⟨(now+1),sched,next,(.slice D1 S.length d1),vA,-1,(S.set who ⟨x0,st1,bo0⟩),A⟩).size=11:=rfl;have hoz:=qw k.out.fact;go_wp2_with(first|((with_reducible refine zp ?_);first|refine zg rfl rfl rfl (by with_reducible rfl) ?_)|((with_reducible refine zz ?_);first|(refine ld1 k rfl rfl .a2 (by rfl) ?_)|(refine lda k rfl rfl .a2 (by with_reducible assumption) ?_))|((with_reducible refine zx ?_);refine soa k rfl rfl rfl .a1 (by with_reducible assumption) (by rfl) (by assumption) ?_;clear k;intro W k));exact bodyPost_ret (yj rfl _ rfl (yx k.out 1 rfl 36 rfl rfl)) rfl ⟨_,rfl,k.out.out.mono (by omega),SyOk.tick (y:=⟨now,sched,next,(.slice D1 S.length d1),vA,-1,(S.set who ⟨x0,st1,bo0⟩),A⟩) OKe.out.own rfl (by dsimp only;omega),STE.out _ rfl rfl,k.out.end⟩
 |false=>
  clear hsta
  go_upto_region 5 with fail
  have OKs:Hid (SyOk ⟨vP,lP,fr,vW,lW,wl,vC,lC,vI,lI,il⟩ s ⟨now,sched,next,.slice A1 S.length c1,vA,-1,S,A⟩):=OK.out.own;have HS1:Hid (Woke wh S S):=zj (.inl rfl);clear OK HSL;obtain⟨D1,d1,f1,hd1,hdm1⟩:=k.out.fact.2.1.len;dsimp only at f1 hd1;rw[List.length_map] at f1 hd1;try rw[List.length_set] at f1 hd1
  try subst f1
  try clear f1
  unfold maxLen at hdm1
  go_upto_block 0 with fail
  refine zy (fun Q0 hq0=> ?_);refine wp_seq_k (fun K1 hk1=> ?_);refine zy (fun Q1 hq1=> ?_);refine wp_seq_k (fun K2 hk2=> ?_);refine zy (fun Q2 hq2=> ?_);refine wp_seq_k (fun K3 hk3=> ?_);refine zy (fun Q3 hq3=> ?_);by_cases hho:ho=2
  ·subst hho
   obtain⟨rw0,hrw0,hrw1⟩:=at_own (by rw[HAT.out]);have hwo:=gb HP.out.T rw0 hrw0;rw[HAT.out] at hrw1;dsimp only at hrw1 hwo;obtain⟨who,hwho⟩: ∃n:Nat,wh=(n:Int):=⟨wh.toNat,by omega⟩;subst hwho;have hlt1:who<S.length:=by have:=OKs.out.Sl;dsimp only at this;omega
   clear hrw0 hrw1 hwo;obtain⟨z1,hz1⟩: ∃z,(S)[who]? =some z:=⟨_,List.getElem?_eq_getElem hlt1⟩
   go_upto_region 7 with fail
   go_wp2_with fail;refine(hgoes_any ⟨vP,lP,fr,vW,lW,wl,vC,lC,vI,lI,il⟩ m ⟨now,sched,next,(.slice A1 S.length c1),vA,-1,S,A⟩ who z1 hz1 _ _ k.out.lt k.out.fact _ _ (k.out.blk (i:=2) rfl) (k.out.blk (i:=0) rfl)).mono ?_;rintro e W3 ⟨rfl,hb⟩;replace k:=zj (k.out.call hb);have HZ1:=Lib.hid hz1;clear hb hz1 hlt1;have hsz11:(SyC ⟨vP,lP,fr,vW,lW,wl,vC,lC,vI,lI,il⟩ ⟨now,sched,next,(.slice A1 S.length c1),vA,-1,S,A⟩).size=11:=rfl;by_cases hs1:z1.st=1
   ·have ds1:(z1.st==1)=true:=by rw[beq_iff_eq];exact hs1
    have HS2:=Lib.hid hs1;clear hs1;go_wp2_with((with_reducible refine zz ?_);first|(refine ld1 k rfl rfl (by repeat constructor) (by rfl) ?_)|(refine lda k rfl rfl .a2 (by with_reducible assumption) ?_));refine(hcycle_any ⟨vP,lP,fr,vW,lW,wl,vC,lC,vI,lI,il⟩ s m ⟨now,sched,next,(.slice A1 S.length c1),vA,-1,S,A⟩ who _ _ k.out.lt k.out.fact HP.out OKs.out hs hm (jt HT.out k.out.only (fun h=>h)) z1 HZ1.out HS2.out).mono ?_;rintro e W4 ⟨y3,rfl,hG3,hok3,hcy3,hb⟩;have hoy:=qw hG3;replace k:=zj ((k.out.call hb).turn (fun _=>hG3) (xp _ _ _));obtain⟨now3,sched3,next3,vS3,vA3,own3,S3,B3⟩:=y3;obtain⟨⟨hq1,hq2,hq3⟩,hq4⟩:=hcy3;dsimp only at hq1 hq2 hq3;have hq1:=hq1.symm;have hq2:=hq2.symm;subst hq1 hq2 hq3;have OK3:=Lib.hid hok3;have CY:Hid (HCycS ⟨vP,lP,fr,vW,lW,wl,vC,lC,vI,lI,il⟩ who ⟨now,sched,next,(.slice A1 S.length c1),vA,-1,S,A⟩ ⟨now,sched,next3,vS3,vA3,-1,S3,B3⟩):=⟨⟨rfl,rfl,rfl⟩,hq4⟩;clear hb hG3 hok3 hq4
    go_upto_region 9 with((with_reducible refine zx ?_);refine soa k rfl rfl rfl .a2 (by rfl) (by with_reducible assumption) (by assumption) ?_;clear k;intro W k)
    replace k:Hid (St _ _ _ [(b3,#[.int .i64 who],_),(b36,zSy,_),(c36,SyC ⟨vP,lP,fr,vW,lW,wl,vC,lC,vI,lI,il⟩ ⟨now,sched,next3,vS3,vA3,-1,S3,B3⟩,_)] _ _ _):=k;have OKe:=OK3;have STE:Hid (∀y2:Sy,y2.S=S3->y2.now=now+1->StepS ⟨vP,lP,fr,vW,lW,wl,vC,lC,vI,lI,il⟩ ⟨now,sched,next,.slice A1 S.length c1,vA,own,S,A⟩ y2):=fun y2 h2 hn2=>stepS_goes (y:=⟨now,sched,next,.slice A1 S.length c1,vA,own,S,A⟩) (y1:=⟨now,sched,next,(.slice A1 S.length c1),vA,-1,S,A⟩) (y':=⟨now,sched,next3,vS3,vA3,-1,S3,B3⟩) HAT.out rfl (hsg HS1.out) HZ1.out HS2.out CY.out y2 h2 hn2
    go_upto_region 10 with(first|((with_reducible refine zx ?_);refine yE k (E:=SyC ⟨vP,lP,fr,vW,lW,wl,vC,lC,vI,lI,il⟩ ⟨now,sched,next3,vS3,vA3,(who:Int),S3,B3⟩) (G':=SyG ⟨vP,lP,fr,vW,lW,wl,vC,lC,vI,lI,il⟩ (m+8) ⟨now,sched,next3,vS3,vA3,(who:Int),S3,B3⟩) rfl rfl rfl rfl .a2 (by rfl) (by rfl) (xp _ _ _) (fun X W h=>h) ?_;clear k;intro W k)|((with_reducible refine zz ?_);refine ld1 k rfl rfl .a0 (by rfl) ?_))
    replace k:Hid (St _ _ _ [(b3,#[.int .i64 who],_),(b36,zSy,_),(c36,SyC ⟨vP,lP,fr,vW,lW,wl,vC,lC,vI,lI,il⟩ ⟨now,sched,next3,vS3,vA3,(who:Int),S3,B3⟩,_)] _ _ _):=k
    go_upto_region 11 with(first|((with_reducible refine zx ?_);refine yE k (E:=SyC ⟨vP,lP,fr,vW,lW,wl,vC,lC,vI,lI,il⟩ ⟨(now+1),sched,next3,vS3,vA3,(who:Int),S3,B3⟩) (G':=SyG ⟨vP,lP,fr,vW,lW,wl,vC,lC,vI,lI,il⟩ (m+8) ⟨(now+1),sched,next3,vS3,vA3,(who:Int),S3,B3⟩) rfl rfl rfl rfl .a2 (by rfl) (by rfl) (xp _ _ _) (fun X W h=>h) ?_;clear k;intro W k)|((with_reducible refine zz ?_);refine ld1 k rfl rfl .a2 (by rfl) ?_))
    replace k:Hid (St _ _ _ [(b3,_,_),(b36,zSy,_),(c36,SyC ⟨vP,lP,fr,vW,lW,wl,vC,lC,vI,lI,il⟩ ⟨(now+1),sched,next3,vS3,vA3,(who:Int),S3,B3⟩,_)] _ _ _):=k;by_cases hfz:(now+1)% fr=0
    ·have dfz:((now+1)% fr==0)=true:=by rw[beq_iff_eq];exact hfz
     clear hfz
     go_upto_region 12 with(first|((with_reducible refine zp ?_);first|refine zg rfl rfl rfl (by with_reducible rfl) ?_)|((with_reducible refine zz ?_);refine ld1 k rfl rfl .a2 (by rfl) ?_))
     go_upto_region 13 with(first|((with_reducible refine zx ?_);refine yE k (E:=SyC ⟨vP,lP,fr,vW,lW,wl,vC,lC,vI,lI,il⟩ ⟨(now+1),next3,next3,vS3,vA3,(who:Int),S3,B3⟩) (G':=SyG ⟨vP,lP,fr,vW,lW,wl,vC,lC,vI,lI,il⟩ (m+8) ⟨(now+1),next3,next3,vS3,vA3,(who:Int),S3,B3⟩) rfl rfl rfl rfl .a2 (by rfl) (by rfl) (xp _ _ _) (fun X W h=>h) ?_;clear k;intro W k)|((with_reducible refine zz ?_);refine ld1 k rfl rfl .a2 (by rfl) ?_))
     replace k:Hid (St _ _ _ [(b3,_,_),(b36,zSy,_),(c36,SyC ⟨vP,lP,fr,vW,lW,wl,vC,lC,vI,lI,il⟩ ⟨(now+1),next3,next3,vS3,vA3,(who:Int),S3,B3⟩,_)] _ _ _):=k;have hsz12:(SyC ⟨vP,lP,fr,vW,lW,wl,vC,lC,vI,lI,il⟩ ⟨(now+1),next3,next3,vS3,vA3,(who:Int),S3,B3⟩).size=11:=rfl;have hoz:=qw k.out.fact;go_wp2_with(first|((with_reducible refine zz ?_);refine lda k rfl rfl .a2 (by with_reducible assumption) ?_)|((with_reducible refine zx ?_);refine soa k rfl rfl rfl .a1 (by with_reducible assumption) (by rfl) (by assumption) ?_;clear k;intro W k));exact bodyPost_ret (yj rfl _ rfl (yx k.out 1 rfl 36 rfl rfl)) rfl ⟨_,rfl,k.out.out,SyOk.turn (y:=⟨(now+1),sched,next3,vS3,vA3,(who:Int),S3,B3⟩) (SyOk.tick (y:=⟨now,sched,next3,vS3,vA3,(who:Int),S3,B3⟩) OKe.out.own rfl (by dsimp only;omega)),STE.out _ rfl rfl,k.out.end⟩
    ·have dfz:((now+1)% fr==0)=false:=by rw[beq_eq_false_iff_ne];exact hfz
     clear hfz;have hsz12:(SyC ⟨vP,lP,fr,vW,lW,wl,vC,lC,vI,lI,il⟩ ⟨(now+1),sched,next3,vS3,vA3,(who:Int),S3,B3⟩).size=11:=rfl;have hoz:=qw k.out.fact;go_wp2_with(first|((with_reducible refine zp ?_);first|refine zg rfl rfl rfl (by with_reducible rfl) ?_)|((with_reducible refine zz ?_);first|(refine ld1 k rfl rfl .a2 (by rfl) ?_)|(refine lda k rfl rfl .a2 (by with_reducible assumption) ?_))|((with_reducible refine zx ?_);refine soa k rfl rfl rfl .a1 (by with_reducible assumption) (by rfl) (by assumption) ?_;clear k;intro W k));exact bodyPost_ret (yj rfl _ rfl (yx k.out 1 rfl 36 rfl rfl)) rfl ⟨_,rfl,k.out.out,SyOk.tick (y:=⟨now,sched,next3,vS3,vA3,(who:Int),S3,B3⟩) OKe.out.own rfl (by dsimp only;omega),STE.out _ rfl rfl,k.out.end⟩
   ·have ds1:(z1.st==1)=false:=by rw[beq_eq_false_iff_ne];exact hs1
    have ns1: ¬(z1.st=1):=hs1
    go_upto_region 9 with fail
    have OKe:Hid (SyOk ⟨vP,lP,fr,vW,lW,wl,vC,lC,vI,lI,il⟩ (s+1) ⟨now,sched,next,(.slice A1 S.length c1),vA,-1,S,A⟩):=OKs.out.mono (Nat.le_succ s);have STE:Hid (∀y2:Sy,y2.S=S->y2.now=now+1->StepS ⟨vP,lP,fr,vW,lW,wl,vC,lC,vI,lI,il⟩ ⟨now,sched,next,.slice A1 S.length c1,vA,own,S,A⟩ y2):=fun y2 h2 hn2=>Zz (y:=⟨now,sched,next,.slice A1 S.length c1,vA,own,S,A⟩) HAT.out hn2 h2 HS1.out (fun _=>still_not HZ1.out ns1)
    go_upto_region 10 with(first|((with_reducible refine zx ?_);refine yE k (E:=SyC ⟨vP,lP,fr,vW,lW,wl,vC,lC,vI,lI,il⟩ ⟨now,sched,next,(.slice A1 S.length c1),vA,(who:Int),S,A⟩) (G':=SyG ⟨vP,lP,fr,vW,lW,wl,vC,lC,vI,lI,il⟩ m ⟨now,sched,next,(.slice A1 S.length c1),vA,(who:Int),S,A⟩) rfl rfl rfl rfl .a2 (by rfl) (by rfl) (xp _ _ _) (fun X W h=>h) ?_;clear k;intro W k)|((with_reducible refine zz ?_);refine ld1 k rfl rfl .a0 (by rfl) ?_))
    replace k:Hid (St _ _ _ [(b3,#[.int .i64 who],_),(b36,zSy,_),(c36,SyC ⟨vP,lP,fr,vW,lW,wl,vC,lC,vI,lI,il⟩ ⟨now,sched,next,(.slice A1 S.length c1),vA,(who:Int),S,A⟩,_)] _ _ _):=k
    go_upto_region 11 with(first|((with_reducible refine zx ?_);refine yE k (E:=SyC ⟨vP,lP,fr,vW,lW,wl,vC,lC,vI,lI,il⟩ ⟨(now+1),sched,next,(.slice A1 S.length c1),vA,(who:Int),S,A⟩) (G':=SyG ⟨vP,lP,fr,vW,lW,wl,vC,lC,vI,lI,il⟩ m ⟨(now+1),sched,next,(.slice A1 S.length c1),vA,(who:Int),S,A⟩) rfl rfl rfl rfl .a2 (by rfl) (by rfl) (xp _ _ _) (fun X W h=>h) ?_;clear k;intro W k)|((with_reducible refine zz ?_);refine ld1 k rfl rfl .a2 (by rfl) ?_))
    replace k:Hid (St _ _ _ [(b3,_,_),(b36,zSy,_),(c36,SyC ⟨vP,lP,fr,vW,lW,wl,vC,lC,vI,lI,il⟩ ⟨(now+1),sched,next,(.slice A1 S.length c1),vA,(who:Int),S,A⟩,_)] _ _ _):=k;by_cases hfz:(now+1)% fr=0
    ·have dfz:((now+1)% fr==0)=true:=by rw[beq_iff_eq];exact hfz
     clear hfz
     go_upto_region 12 with(first|((with_reducible refine zp ?_);first|refine zg rfl rfl rfl (by with_reducible rfl) ?_)|((with_reducible refine zz ?_);refine ld1 k rfl rfl .a2 (by rfl) ?_))
     go_upto_region 13 with(first|((with_reducible refine zx ?_);refine yE k (E:=SyC ⟨vP,lP,fr,vW,lW,wl,vC,lC,vI,lI,il⟩ ⟨(now+1),next,next,(.slice A1 S.length c1),vA,(who:Int),S,A⟩) (G':=SyG ⟨vP,lP,fr,vW,lW,wl,vC,lC,vI,lI,il⟩ m ⟨(now+1),next,next,(.slice A1 S.length c1),vA,(who:Int),S,A⟩) rfl rfl rfl rfl .a2 (by rfl) (by rfl) (xp _ _ _) (fun X W h=>h) ?_;clear k;intro W k)|((with_reducible refine zz ?_);refine ld1 k rfl rfl .a2 (by rfl) ?_))
     replace k:Hid (St _ _ _ [(b3,_,_),(b36,zSy,_),(c36,SyC ⟨vP,lP,fr,vW,lW,wl,vC,lC,vI,lI,il⟩ ⟨(now+1),next,next,(.slice A1 S.length c1),vA,(who:Int),S,A⟩,_)] _ _ _):=k;have hsz12:(SyC ⟨vP,lP,fr,vW,lW,wl,vC,lC,vI,lI,il⟩ ⟨(now+1),next,next,(.slice A1 S.length c1),vA,(who:Int),S,A⟩).size=11:=rfl;have hoz:=qw k.out.fact;go_wp2_with(first|((with_reducible refine zz ?_);refine lda k rfl rfl .a2 (by with_reducible assumption) ?_)|((with_reducible refine zx ?_);refine soa k rfl rfl rfl .a1 (by with_reducible assumption) (by rfl) (by assumption) ?_;clear k;intro W k));exact bodyPost_ret (yj rfl _ rfl (yx k.out 1 rfl 36 rfl rfl)) rfl ⟨_,rfl,k.out.out.mono (by omega),SyOk.turn (y:=⟨(now+1),sched,next,(.slice A1 S.length c1),vA,(who:Int),S,A⟩) (SyOk.tick (y:=⟨now,sched,next,(.slice A1 S.length c1),vA,(who:Int),S,A⟩) OKe.out.own rfl (by dsimp only;omega)),STE.out _ rfl rfl,k.out.end⟩
    ·have dfz:((now+1)% fr==0)=false:=by rw[beq_eq_false_iff_ne];exact hfz
     clear hfz;have hsz12:(SyC ⟨vP,lP,fr,vW,lW,wl,vC,lC,vI,lI,il⟩ ⟨(now+1),sched,next,(.slice A1 S.length c1),vA,(who:Int),S,A⟩).size=11:=rfl;have hoz:=qw k.out.fact;go_wp2_with(first|((with_reducible refine zp ?_);first|refine zg rfl rfl rfl (by with_reducible rfl) ?_)|((with_reducible refine zz ?_);first|(refine ld1 k rfl rfl .a2 (by rfl) ?_)|(refine lda k rfl rfl .a2 (by with_reducible assumption) ?_))|((with_reducible refine zx ?_);refine soa k rfl rfl rfl .a1 (by with_reducible assumption) (by rfl) (by assumption) ?_;clear k;intro W k));exact bodyPost_ret (yj rfl _ rfl (yx k.out 1 rfl 36 rfl rfl)) rfl ⟨_,rfl,k.out.out.mono (by omega),SyOk.tick (y:=⟨now,sched,next,(.slice A1 S.length c1),vA,(who:Int),S,A⟩) OKe.out.own rfl (by dsimp only;omega),STE.out _ rfl rfl,k.out.end⟩
  ·have dho:(ho==2)=false:=by rw[beq_eq_false_iff_ne];exact hho
   have nho: ¬(ho=2):=hho
   go_upto_region 10 with fail
   have OKe:Hid (SyOk ⟨vP,lP,fr,vW,lW,wl,vC,lC,vI,lI,il⟩ (s+1) ⟨now,sched,next,(.slice A1 S.length c1),vA,-1,S,A⟩):=OKs.out.mono (Nat.le_succ s);have STE:Hid (∀y2:Sy,y2.S=S->y2.now=now+1->StepS ⟨vP,lP,fr,vW,lW,wl,vC,lC,vI,lI,il⟩ ⟨now,sched,next,.slice A1 S.length c1,vA,own,S,A⟩ y2):=fun y2 h2 hn2=>Zz (y:=⟨now,sched,next,.slice A1 S.length c1,vA,own,S,A⟩) HAT.out hn2 h2 HS1.out (fun h=>absurd h nho);replace k:Hid (St _ _ _ [(b3,#[.int .i64 wh],_),(b36,zSy,_),(c36,SyC ⟨vP,lP,fr,vW,lW,wl,vC,lC,vI,lI,il⟩ ⟨now,sched,next,(.slice A1 S.length c1),vA,-1,S,A⟩,_)] _ _ _):=k
   go_upto_region 11 with(first|((with_reducible refine zx ?_);refine yE k (E:=SyC ⟨vP,lP,fr,vW,lW,wl,vC,lC,vI,lI,il⟩ ⟨(now+1),sched,next,(.slice A1 S.length c1),vA,-1,S,A⟩) (G':=SyG ⟨vP,lP,fr,vW,lW,wl,vC,lC,vI,lI,il⟩ m ⟨(now+1),sched,next,(.slice A1 S.length c1),vA,-1,S,A⟩) rfl rfl rfl rfl .a2 (by rfl) (by rfl) (xp _ _ _) (fun X W h=>h) ?_;clear k;intro W k)|((with_reducible refine zz ?_);refine ld1 k rfl rfl .a2 (by rfl) ?_))
   replace k:Hid (St _ _ _ [(b3,_,_),(b36,zSy,_),(c36,SyC ⟨vP,lP,fr,vW,lW,wl,vC,lC,vI,lI,il⟩ ⟨(now+1),sched,next,(.slice A1 S.length c1),vA,-1,S,A⟩,_)] _ _ _):=k;by_cases hfz:(now+1)% fr=0
   ·have dfz:((now+1)% fr==0)=true:=by rw[beq_iff_eq];exact hfz
    clear hfz
    go_upto_region 12 with(first|((with_reducible refine zp ?_);first|refine zg rfl rfl rfl (by with_reducible rfl) ?_)|((with_reducible refine zz ?_);refine ld1 k rfl rfl .a2 (by rfl) ?_))
    go_upto_region 13 with(first|((with_reducible refine zx ?_);refine yE k (E:=SyC ⟨vP,lP,fr,vW,lW,wl,vC,lC,vI,lI,il⟩ ⟨(now+1),next,next,(.slice A1 S.length c1),vA,-1,S,A⟩) (G':=SyG ⟨vP,lP,fr,vW,lW,wl,vC,lC,vI,lI,il⟩ m ⟨(now+1),next,next,(.slice A1 S.length c1),vA,-1,S,A⟩) rfl rfl rfl rfl .a2 (by rfl) (by rfl) (xp _ _ _) (fun X W h=>h) ?_;clear k;intro W k)|((with_reducible refine zz ?_);refine ld1 k rfl rfl .a2 (by rfl) ?_))
    replace k:Hid (St _ _ _ [(b3,_,_),(b36,zSy,_),(c36,SyC ⟨vP,lP,fr,vW,lW,wl,vC,lC,vI,lI,il⟩ ⟨(now+1),next,next,(.slice A1 S.length c1),vA,-1,S,A⟩,_)] _ _ _):=k;have hsz12:(SyC ⟨vP,lP,fr,vW,lW,wl,vC,lC,vI,lI,il⟩ ⟨(now+1),next,next,(.slice A1 S.length c1),vA,-1,S,A⟩).size=11:=rfl;have hoz:=qw k.out.fact;go_wp2_with(first|((with_reducible refine zz ?_);refine lda k rfl rfl .a2 (by with_reducible assumption) ?_)|((with_reducible refine zx ?_);refine soa k rfl rfl rfl .a1 (by with_reducible assumption) (by rfl) (by assumption) ?_;clear k;intro W k));exact bodyPost_ret (yj rfl _ rfl (yx k.out 1 rfl 36 rfl rfl)) rfl ⟨_,rfl,k.out.out.mono (by omega),SyOk.turn (y:=⟨(now+1),sched,next,(.slice A1 S.length c1),vA,-1,S,A⟩) (SyOk.tick (y:=⟨now,sched,next,(.slice A1 S.length c1),vA,-1,S,A⟩) OKe.out.own rfl (by dsimp only;omega)),STE.out _ rfl rfl,k.out.end⟩
   ·have dfz:((now+1)% fr==0)=false:=by rw[beq_eq_false_iff_ne];exact hfz
    clear hfz;have hsz12:(SyC ⟨vP,lP,fr,vW,lW,wl,vC,lC,vI,lI,il⟩ ⟨(now+1),sched,next,(.slice A1 S.length c1),vA,-1,S,A⟩).size=11:=rfl;have hoz:=qw k.out.fact;go_wp2_with(first|((with_reducible refine zp ?_);first|refine zg rfl rfl rfl (by with_reducible rfl) ?_)|((with_reducible refine zz ?_);first|(refine ld1 k rfl rfl .a2 (by rfl) ?_)|(refine lda k rfl rfl .a2 (by with_reducible assumption) ?_))|((with_reducible refine zx ?_);refine soa k rfl rfl rfl .a1 (by with_reducible assumption) (by rfl) (by assumption) ?_;clear k;intro W k));exact bodyPost_ret (yj rfl _ rfl (yx k.out 1 rfl 36 rfl rfl)) rfl ⟨_,rfl,k.out.out.mono (by omega),SyOk.tick (y:=⟨now,sched,next,(.slice A1 S.length c1),vA,-1,S,A⟩) OKe.out.own rfl (by dsimp only;omega),STE.out _ rfl rfl,k.out.end⟩
end
section
open Go.RowKit Go.Proofs.YtaccidkgnkmagaaGreatDoor.Isa
inductive Steps (p:Pn):Nat->Sy->Sy->Prop
 |zero (y:Sy):Steps p 0 y y
 |succ {n:Nat} {y y' y2:Sy}:Steps p n y y'->(p.wl.length=1->y'.sched=0)->StepS p y' y2->Steps p (n+1) y y2
def RunR(p:Pn)(s m n:Nat)(y:Sy)(X:Nat->Prop)(w:World)(e:Ending)(w':World):Prop:=
 ∃y',e= .returned (.agg (SyC p y'))/\SyG p m y' X w' /\SyOk p s y' /\Steps p n y y' /\Below w.heap.size w w'
theorem hrun_any(p:Pn)(s m n:Nat)(y:Sy)(X0:Nat->Prop)(w:World)(hX: ∀b,X0 b->b<w.heap.size)(hG:SyG p m y X0 w)(hP:PnT p)(hok:SyOk p s y)(hs:s+n<=700)(hm:m+8*n<=100000)(hT:Tab w):
  Calls Tryz.prog 11 #[.agg (SyC p y),.int .i64 n] w (RunR p (s+n) (m+8*n) n y X0 w):=by
 have k:Hid (St (fun _=>False) X0 w [] (SyG p m y) X0 w):=St.begin hX hG (xp _ _ _);have HP:=Lib.hid hP;have OK:=Lib.hid hok;have HT:=Lib.hid hT;have hy1:=Lib.hid (qw hG);have hmx:max (n:Int) 0=n:=by omega
 clear hG hP hok hT;go_enter Tryz.func11,Tryz.ntmps11
 go_upto_region 1 with(first|((with_reducible refine zz ?_);refine lda k rfl rfl (by repeat constructor) (by first|with_reducible assumption|rfl) ?_)|((with_reducible refine zx ?_);first|(refine soa k rfl rfl rfl (by repeat constructor) (by first|with_reducible assumption|rfl) (by first|with_reducible assumption|rfl) (by first|exact zm rfl|assumption) ?_;clear k;intro W k)|(refine sop k rfl rfl rfl (by repeat constructor) (by first|with_reducible assumption|rfl) (by first|with_reducible assumption|rfl) (by first|exact zm rfl|assumption) rfl ?_;clear k;intro W k))|((with_reducible refine zI ?_);refine bxa k (T:=36) rfl ?_;clear k;intro c36 X W k)|((with_reducible refine zf ?_);refine ala k Tryz.zeroValue36 ?_;clear k;intro b36 X W k))
 replace k:Hid (St _ _ _ [(b36,zSy,_),(c36,_,_)] _ _ _):=k;go_wp2_with(first|((with_reducible refine zz ?_);refine lda k rfl rfl (by repeat constructor) (by first|with_reducible assumption|rfl) ?_)|((with_reducible refine zx ?_);first|(refine soa k rfl rfl rfl (by repeat constructor) (by first|with_reducible assumption|rfl) (by first|with_reducible assumption|rfl) (by first|exact zm rfl|assumption) ?_;clear k;intro W k)|(refine sop k rfl rfl rfl (by repeat constructor) (by first|with_reducible assumption|rfl) (by first|with_reducible assumption|rfl) (by first|exact zm rfl|assumption) rfl ?_;clear k;intro W k))|((with_reducible refine zI ?_);refine bxa k (T:=36) rfl ?_;clear k;intro c36 X W k)|((with_reducible refine zf ?_);refine ala k Tryz.zeroValue36 ?_;clear k;intro b36 X W k))
 go_loopw [7] (fun i W=> ∃(j:Nat) (y':Sy),j<=n/\i= .int .i64 j/\Hid (SyOk p (s+j) y')/\Hid (Steps p j y y')/\Hid (Stay (fun _=>False) X0 w [(b36,zSy,36),(c36,SyC p y',36)] (SyG p (m+8*j) y') W)) (fun i _=>n-(intOf i).toNat)
 case atStart=>exact⟨0,y,Nat.zero_le _,rfl,OK,zj (.zero y),zj ⟨_,k.out⟩⟩
 case round=>
  obtain⟨j,y',hjn,rfl,hOK,hSt,hS⟩:=hrel;obtain⟨X,kS⟩:=hS.out;clear k hS;have k:=zj kS;clear kS;have hsz:(SyC p y').size=11:=rfl;by_cases hlt:j<n
  ·have hji:(j:Int)<n:=by omega
   go_wp2_with(first|((with_reducible refine zz ?_);refine lda k rfl rfl .a1 (by with_reducible assumption) ?_)|((with_reducible refine zx ?_);first|(refine soa k rfl rfl rfl (by repeat constructor) (by first|with_reducible assumption|rfl) (by first|with_reducible assumption|rfl) (by first|exact zm rfl|assumption) ?_;clear k;intro W k)|(refine sop k rfl rfl rfl (by repeat constructor) (by first|with_reducible assumption|rfl) (by first|with_reducible assumption|rfl) (by first|exact zm rfl|assumption) rfl ?_;clear k;intro W k))|((with_reducible refine zI ?_);refine bxa k (T:=36) rfl ?_;clear k;intro c36 X W k)|((with_reducible refine zf ?_);refine ala k Tryz.zeroValue36 ?_;clear k;intro b36 X W k));refine(hstep_any p (s+j) (m+8*j) y' _ _ k.out.lt k.out.fact HP.out hOK.out (by omega) (by omega) (jt HT.out k.out.only (fun h=>h))).mono ?_;rintro e W1 ⟨y2,rfl,hG2,hok2,hst2,hb⟩;have hoy:=qw hG2;have hsz2:(SyC p y2).size=11:=rfl;replace k:=zj ((k.out.call hb).turn (fun _=>hG2) (xp _ _ _));have OK2:=Lib.hid hok2;have ST2:Hid (Steps p (j+1) y y2):=zj (.succ hSt.out (fun e=>(hOK.out.one e).1) hst2);clear hb hG2 hok2 hst2 hSt hOK;go_wp2_with(first|((with_reducible refine zz ?_);refine lda k rfl rfl (by repeat constructor) (by first|with_reducible assumption|rfl) ?_)|((with_reducible refine zx ?_);first|(refine soa k rfl rfl rfl .a1 (by with_reducible assumption) (by with_reducible assumption) (by assumption) ?_;clear k;intro W k)|(refine sop k rfl rfl rfl (by repeat constructor) (by first|with_reducible assumption|rfl) (by first|with_reducible assumption|rfl) (by first|exact zm rfl|assumption) rfl ?_;clear k;intro W k))|((with_reducible refine zI ?_);refine bxa k (T:=36) rfl ?_;clear k;intro c36 X W k)|((with_reducible refine zf ?_);refine ala k Tryz.zeroValue36 ?_;clear k;intro b36 X W k))
   go_roundw
   case rel=>exact⟨j+1,y2,by omega,by go_num,OK2,ST2,zj ⟨_,k.out⟩⟩
   case measure=>simp[intOf];omega
  ·obtain rfl:j=n:=by omega
   have ho:yZ (SyC p y'):=qw k.out.fact;go_wp2_with(first|((with_reducible refine zz ?_);refine lda k rfl rfl .a1 (by with_reducible assumption) ?_)|((with_reducible refine zx ?_);first|(refine soa k rfl rfl rfl .a0 (by with_reducible assumption) (by rfl) (by assumption) ?_;clear k;intro W k)|(refine sop k rfl rfl rfl (by repeat constructor) (by first|with_reducible assumption|rfl) (by first|with_reducible assumption|rfl) (by first|exact zm rfl|assumption) rfl ?_;clear k;intro W k))|((with_reducible refine zI ?_);refine bxa k (T:=36) rfl ?_;clear k;intro c36 X W k)|((with_reducible refine zf ?_);refine ala k Tryz.zeroValue36 ?_;clear k;intro b36 X W k));exact bodyPost_ret (yj rfl _ rfl (yx k.out 0 rfl 36 rfl rfl)) rfl ⟨y',rfl,k.out.out,hOK.out,hSt.out,k.out.end⟩
end
end Go.Proofs.YtaccidkgnkmagaaGreatDoor.Top
