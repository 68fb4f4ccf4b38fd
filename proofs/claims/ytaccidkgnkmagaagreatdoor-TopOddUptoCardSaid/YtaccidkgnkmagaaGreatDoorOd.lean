/-
  TopOdd: the theorem through all layers. Conditions: the table isa.uses as the program lays it (tied); what is read is of bulk at most 1048576.
-/
import Derived.Test.YtaccidkgnkmagaaGreatDoorTo01
import Derived.Test.YtaccidkgnkmagaaGreatDoorTs28
set_option maxRecDepth 16000
set_option maxHeartbeats 12800000
set_option linter.unusedVariables false
set_option linter.unusedSimpArgs false
namespace Go.Proofs.YtaccidkgnkmagaaGreatDoor.Top
open Go.RowKit
theorem ins15_any(vP:Value)(fr:Int)(vW vC:Value)(lC:List (Array Value))(part:Int)(X0:Nat->Prop)(w:World)(hX: ∀b,X0 b->b<w.heap.size)(hsl:Sl 5 vC lC X0 w)(hT: ∀r∈lC,Ty gx r)(hle:lC.length<=1000000):
  Calls Tryz.prog 12 #[.agg (PLC vP fr vW vC),.int .i64 part] w (SomeR (lC.filter fun r=>zQ r 2==part) X0 w):=by
 obtain⟨A,c,rfl,hlc,hcm⟩:=hsl.len;have H:=Lib.hid hsl;have HT:=Lib.hid hT;clear hsl hT;go_enter Tryz.func12,Tryz.ntmps12;go_wp2_with(refine yf rfl 26 (.tmp 0) rfl _ rfl (PLC _ _ _ _) rfl ?_;intro W1 hk1 hb1 hz1);have HK1:=Lib.hid hk1;have HB1:=Lib.hid hb1;clear hk1 hb1
 go_loopw [5,6] (fun v i W=> ∃(k:Nat) (rows:List (Array Value)),k<=lC.length/\i= .int .i64 k/\Hid (rows=(lC.take k).filter fun r=>zQ r 2==part)/\Hid (W.ownsRow W1.heap.size 87 5 v rows.length (yy rows))/\Hid (Below W1.heap.size W1 W)) (fun _ i _=>lC.length-(intOf i).toNat)
 case atStart=>exact⟨0,[],Nat.zero_le _,rfl,zj (by simp),zj (World.ownsRow_nil _ _ _ _),zj (Below.refl _ _)⟩
 case round=>
  obtain⟨k,rows,hk,rfl,hR,hO,hB⟩:=hrel;obtain⟨A5,c5,rfl,hA5⟩:=yb hO.out;have hkw:=HK1.out.below hB.out;have g3:wr.cell? ⟨w.heap.size,3,none⟩=some (.slice A lC.length c):=hkw.rules.1 3;clear hkw hA5;by_cases hlt:k<lC.length
  ·obtain⟨r,hr⟩: ∃r,lC[k]? =some r:=⟨lC[k],List.getElem?_eq_getElem hlt⟩
   have hrt:=HT.out r (List.mem_of_getElem? hr);obtain⟨b,o,rfl,hbs,_,hrs,hcell⟩:=((zb _ _ _).step H.out (Only.of_below (HB1.out.trans (hB.out.mono HB1.out.size)))).row hr (by decide);have e2:=hcell 2 _ (xq hrt 2 rfl);have HC:=Lib.hid hcell;have hro:=hrt.one;have hki:(k:Int)<lC.length:=by omega
   have htk:lC.take (k+1)=lC.take k++ [r]:=by rw[List.take_add_one,hr];rfl
   have HTK:=Lib.hid htk;have HRO:=Lib.hid hro;clear hcell hr hrt htk hro;by_cases hp:zQ r 2=part
   ·have dp:(zQ r 2==part)=true:=by rw[beq_iff_eq];exact hp
    have HP:=Lib.hid hp;have HR2:Hid (rows++ [r]=(lC.take (k+1)).filter fun r=>zQ r 2==part):=by
     rw[HTK.out,List.filter_append,<-hR.out,List.filter_cons,if_pos dp,List.filter_nil];exact zj rfl
    clear hp;go_wp2_with(first|(refine zZ rfl (.tmp 26) 87 rfl b _ 5 rfl r (Tryz.isAgg87 _) (Tryz.sizeOf87 _) hrs (fun j u hj=>by have:=HC.out j u hj;simpa using this) ?_)|(refine yQ elChan rfl rfl rfl rfl hrs (by decide) (by decide) ?_;intro W2 hk2 hb2 hz2)|(refine yO elChan (by decide) rfl (.tmp 22) (.tmp 28) rfl W1.heap.size _ rows rfl (gy hO.out hb2) (fun _=>False) _ [r] rfl (qU hk2 hrs (Nat.le_refl 1) (by unfold maxLen;omega)) (by intro q hq;simp at hq;subst hq;exact HRO.out) (by rw[hR.out];have:=List.length_filter_le (fun r=>zQ r 2==part) (lC.take k);simp only[List.length_take] at this;simp;omega) (by omega) (by have:=hB.out.size;omega) ?_;intro v' W3 hown2 hb3 hz3 _ _))
    go_roundw
    case rel=>exact⟨k+1,rows++ [r],by omega,by go_num,HR2,zj hown2,zj (hB.out.trans ((hb2.mono hB.out.size).trans hb3))⟩
    case measure=>simp[intOf];omega
   ·have dp:(zQ r 2==part)=false:=by rw[beq_eq_false_iff_ne];exact hp
    have HR2:Hid (rows=(lC.take (k+1)).filter fun r=>zQ r 2==part):=by
     rw[HTK.out,List.filter_append,<-hR.out,List.filter_cons,if_neg (by rw[dp];decide),List.filter_nil,List.append_nil];exact zj rfl
    clear hp;go_wp2_with fail
    go_roundw
    case rel=>exact⟨k+1,rows,by omega,by go_num,HR2,hO,hB⟩
    case measure=>simp[intOf];omega
  ·have hki:(lC.length:Int)<=k:=by omega
   obtain rfl:k=lC.length:=by omega
   have hro:rows=lC.filter fun r=>zQ r 2==part:=by rw[hR.out,List.take_length]
   have HRO:=Lib.hid hro;clear hro;go_wp2_with fail;have hwend:Below w.heap.size w wr:=HB1.out.trans (hB.out.mono HB1.out.size);have hown:=hO.out;rw[HRO.out] at hown;have hsl2:Sl 5 (.slice A5 rows.length c5) (lC.filter fun r=>zQ r 2==part) X0 wr:=by
    rw[HRO.out];exact zV hown (fun r hr=>(HT.out r (List.mem_filter.1 hr).1).size) (fun b hb=>Nat.lt_of_lt_of_le (hX b hb) HB1.out.size)
   exact bodyPost_ret (zh rfl rfl) rfl ⟨_,rfl,hsl2,hwend⟩
section
open Go.RowKit Go.Proofs.YtaccidkgnkmagaaGreatDoor.Isa
theorem st_load_rowp{ops:Array Oper}{rest:List Oper}{o:Oper}{a:Act}{Q:Exit->Act->World->Prop}{w:World}(hgd:o.guard=none){s:Operand}{T:TypeId}(ho:o.op= .load T s){size n c:Nat}{A:Option Addr}{l:List (Array Value)}{Y:Nat->Prop}(hl:Sl size (.slice A n c) l Y w){i:Nat}{r:Array Value}(hr:l[i]? =some r)(h0:0<size)(D:Array Value)(hD: ∀(j:Nat) (u:Value),D[j]? =some u->r[j]? =some u)
  {b off:Nat} (hs:ev a s=some (.pointer (some ⟨b,off,none⟩))) (hb: ∃o',A=some ⟨b,o',none⟩/\off=o'+i*size) (hagg:(isAgg T).run Tryz.prog w= .ok true w) (hsz:(sizeOf T).run Tryz.prog w= .ok D.size w)
  (h:wpList Tryz.prog ops Q rest (a.put o.dst (.agg D)) w):wpList Tryz.prog ops Q (o::rest) a w:=by
 obtain⟨b',o'',e1,_,_,hrs,hc⟩:=hl.row hr h0;obtain⟨o',e2,rfl⟩:=hb;rw[e1] at e2;injection e2 with e2;injection e2 with e3 e4;subst e3 e4;exact zZ hgd s T ho b' _ D.size (xO hs) D hagg hsz rfl (fun j u hj=>hc j u (hD j u hj)) h
theorem seC_K(z:Se): ∀(j:Nat) (u:Value),(KC z.x)[j]? =some u->(seC z)[j]? =some u:=by
 intro j u h;have hj:j<17:=(Array.getElem?_eq_some_iff.1 h).1
 match j,hj with
 |0,_=>exact h
 |1,_=>exact h
 |2,_=>exact h
 |3,_=>exact h
 |4,_=>exact h
 |5,_=>exact h
 |6,_=>exact h
 |7,_=>exact h
 |8,_=>exact h
 |9,_=>exact h
 |10,_=>exact h
 |11,_=>exact h
 |12,_=>exact h
 |13,_=>exact h
 |14,_=>exact h
 |15,_=>exact h
 |16,_=>exact h
theorem most_nat(nn:Int): ∃m:Nat,Zl nn=m/\m<=600:=by
 have h0:0<=Zl nn/\Zl nn<=600:=by unfold Zl;split<;>(try split)<;>omega
 exact⟨(Zl nn).toNat,by omega,by omega⟩
theorem event_lit{r:Array Value}(h:Ty kEvent r): ∃a b c d:Int,r= #[.int .i64 a,.int .u32 b,.int .u32 c,.int .u64 d]:=by
 obtain⟨l⟩:=r;have h0:TyL kEvent l:=h;unfold kEvent at h0;obtain⟨_,l0,rfl,⟨a,rfl,_⟩,h1⟩:=yq h0;obtain⟨_,l1,rfl,⟨b,rfl,_⟩,h2⟩:=yq h1;obtain⟨_,l2,rfl,⟨c,rfl,_⟩,h3⟩:=yq h2;obtain⟨_,l3,rfl,⟨d,rfl,_⟩,h5⟩:=yq h3;obtain rfl:=gE h5;exact⟨a,b,c,d,rfl⟩
theorem odd_any(p:Pn)(nn part:Int)(w:World)(hG:PnG p (fun _=>False) w)(hT:ZJ p.lP p.wl p.lC)(hI: ∀l∈p.il,∀r∈l,∃t:ByteArray,r= #[.string t])(hIl: ∀l∈p.il,l.length<=10000000)(hile:p.il.length<=10000000)(hf0: -9223372036854775808<=p.fr)(hf1:p.fr<=9223372036854775807)(hTab:Tab w):
  Calls Tryz.prog 4 #[.agg #[p.vP,.int .i64 p.fr,p.vW,p.vC,p.vI,.int .i64 nn,.int .i64 part]] w fun e w'=>e= .returned (.bool true)/\Below w.heap.size w w':=by
 obtain⟨vP,lP,fr,vW,lW,wl,vC,lC,vI,lI,il⟩:=p;dsimp only at hT hI hIl hile hf0 hf1;have k:Hid (St (fun _=>False) (fun _=>False) w [] (PnG ⟨vP,lP,fr,vW,lW,wl,vC,lC,vI,lI,il⟩) (fun _=>False) w):=St.begin (fun _ h=>h.elim) hG (per_pn _);have HT:=Lib.hid hT;have HI:=Lib.hid hI;have HIL:=Lib.hid hIl;have HTB:=Lib.hid hTab;clear hG hT hI hIl hTab;go_enter Tryz.func4,Tryz.ntmps4
 go_upto_region 1 with((with_reducible refine zI ?_);refine bxa k (T:=63) rfl ?_;clear k;intro c63 X W k)
 replace k:Hid (St _ _ _ [(c63,#[vP,.int .i64 fr,vW,vC,vI,.int .i64 nn,.int .i64 part],_)] _ _ _):=k;go_wp2_with fail;refine(shown_any _ (jt HTB.out k.out.only (fun h=>h))).mono ?_;rintro e W1 ⟨rfl,hb⟩;replace k:=zj (k.out.call hb);clear hb;go_wp2_with((with_reducible refine zz ?_);refine ld1 k rfl rfl .a0 (by rfl) ?_);refine(few_any vI lI il _ k.out.out.2.1 k.out.out.2.2 hile HIL.out).mono ?_;rintro e W2 ⟨small,rfl,hb⟩;replace k:=zj (k.out.call hb);clear hb;go_wp2_with((with_reducible refine zz ?_);first|(refine ld1 k rfl rfl .a0 (by rfl) ?_)|(refine ldp k rfl rfl .a0 (D:= #[_,_,_,_]) (by rfl) (by rfl) ?_));refine(hbegin_any ⟨vP,lP,fr,vW,lW,wl,vC,lC,vI,lI,il⟩ _ _ k.out.lt k.out.fact HT.out HI.out HIL.out hf0 hf1).mono ?_;rintro e W3 (⟨hne,rfl,hb⟩|⟨hck,y,rfl,hG,hok,⟨hn0,_,_,hS0⟩,hb⟩)
 ·replace k:=zj (k.out.call hb)
  clear hb;obtain⟨cv,hcv⟩: ∃a,yv fr lP wl lC=a:=⟨_,rfl⟩;dsimp only at hne;rw[hcv] at hne⊢;have HCV:=Lib.hid hcv;clear hcv;have dcv:(cv==0)=false:=by rw[beq_eq_false_iff_ne];exact hne
  have ncv: ¬(cv=0):=hne;cases small with
  |false=>
   go_wp2_with(first|((with_reducible refine zp ?_);first|refine zg rfl rfl rfl (by with_reducible rfl) ?_)|((with_reducible refine zx ?_);refine soa k rfl rfl rfl .a0 (by rfl) (by rfl) (zm rfl) ?_;clear k;intro W k)|((with_reducible refine zf ?_);refine ala k Tryz.zeroValue36 ?_;clear k;intro b36 X W k));exact bodyPost_ret (zh rfl rfl) rfl ⟨rfl,k.out.end⟩
  |true=>
   go_upto_region 7 with(first|((with_reducible refine zp ?_);first|refine zg rfl rfl rfl (by with_reducible rfl) ?_)|((with_reducible refine zx ?_);refine soa k rfl rfl rfl .a0 (by rfl) (by rfl) (zm rfl) ?_;clear k;intro W k)|((with_reducible refine zf ?_);refine ala k Tryz.zeroValue36 ?_;clear k;intro b36 X W k))
   replace k:Hid (St _ _ _ [(b36,zSy,_),(c63,#[vP,.int .i64 fr,vW,vC,vI,.int .i64 nn,.int .i64 part],_)] _ _ _):=k;go_wp2_with((with_reducible refine zz ?_);refine ldp k rfl rfl .a1 (D:= #[_,_,_,_]) (by rfl) (by rfl) ?_);refine(ref05_any vP lP fr vW lW wl vC lC _ _ k.out.lt k.out.fact.1 HT.out hf0 hf1).mono ?_;rintro e W4 ⟨rfl,hb⟩;rw[HCV.out];replace k:=zj (k.out.call hb);clear hb;have dcc:(cv==cv)=true:=by rw[beq_iff_eq]
   go_wp2_with(first|((with_reducible refine zp ?_);first|refine zg rfl rfl rfl (by with_reducible rfl) ?_)|((with_reducible refine zz ?_);refine ld1 k rfl rfl .a0 (by rfl) ?_));exact bodyPost_ret (zh rfl rfl) rfl ⟨rfl,k.out.end⟩
 dsimp only at hck;have HCK:=Lib.hid hck;have ho:=qw hG;have OK0:=Lib.hid hok;have hszy:(SyC ⟨vP,lP,fr,vW,lW,wl,vC,lC,vI,lI,il⟩ y).size=11:=rfl;replace k:=zj ((k.out.call hb).turn (fun _=>hG) (xp _ _ _));clear hb hG hok hn0 hS0 hck;cases small with
 |false=>
  go_wp2_with(first|((with_reducible refine zp ?_);first|refine zg rfl rfl rfl (by with_reducible rfl) ?_)|((with_reducible refine zx ?_);refine soa k rfl rfl rfl .a0 (by with_reducible assumption) (by rfl) (by assumption) ?_;clear k;intro W k)|((with_reducible refine zf ?_);refine ala k Tryz.zeroValue36 ?_;clear k;intro b36 X W k));exact bodyPost_ret (zh rfl rfl) rfl ⟨rfl,k.out.end⟩
 |true=>
 have HP:Hid (PnT ⟨vP,lP,fr,vW,lW,wl,vC,lC,vI,lI,il⟩):=⟨HT.out,HCK.out,HI.out,HIL.out⟩;obtain⟨MM,hMM,hM6⟩:=most_nat nn;have HMM:=Lib.hid hMM;clear hMM
 go_upto_region 8 with(first|((with_reducible refine zp ?_);first|refine zg rfl rfl rfl (by with_reducible rfl) ?_)|((with_reducible refine zx ?_);refine soa k rfl rfl rfl .a0 (by with_reducible assumption) (by rfl) (by assumption) ?_;clear k;intro W k)|((with_reducible refine zf ?_);refine ala k Tryz.zeroValue36 ?_;clear k;intro b36 X W k))
 replace k:Hid (St _ _ _ [(b36,SyC ⟨vP,lP,fr,vW,lW,wl,vC,lC,vI,lI,il⟩ y,_),(c63,#[vP,.int .i64 fr,vW,vC,vI,.int .i64 nn,.int .i64 part],_)] _ _ _):=k;have HPer:=Lib.hid k.out.per;refine zt k 5 6 (by kernel_rfl) rfl ?_;clear k;intro W k;refine zq [(0,some 44,[5]),(1,some 45,[5]),(2,some 46,[5])] [?v1_0,?v1_1,?v1_2] 3 (by kernel_rfl) ⟨_,k.out⟩ ?l1 ?h1;case l1=>
  intro w' hSw;iterate 3
   refine lkw rfl rfl (by rfl) ?_ ?_
   ·first|((with_reducible refine yw ?_);first|exact hSw.l1 rfl rfl (by repeat constructor) (by rfl)|exact hSw.la rfl rfl .a0 (by with_reducible assumption) (by rfl))|(go_simp<;>with_reducible rfl)
   try simp only[Act.put,tS,t0,t1]
  trivial
 simp only[zw,zk,Act.put,tS,t0,t1];refine w1 3 2 (by kernel_rfl) rfl ?_;go_wp2_with fail;refine(most_any nn _).mono ?_;rintro e W4 ⟨rfl,hb4⟩;rw[HMM.out];replace k:=zj (k.out.call hb4);clear hb4;go_wp2_with fail;refine zd (yz ⟨_,k.out⟩) ?_;refine w1 4 1 (by kernel_rfl) rfl ?_;go_wp2_with fail;refine(hrun_any ⟨vP,lP,fr,vW,lW,wl,vC,lC,vI,lI,il⟩ 0 0 MM y _ _ k.out.lt k.out.fact HP.out OK0.out (by omega) (by omega) (jt HTB.out k.out.only (fun h=>h))).mono ?_;rintro e W5 ⟨y2,rfl,hG2,hok2,_,hb5⟩;rw[Nat.zero_add] at hG2 hok2;have hoy:=qw hG2;have OK2:=Lib.hid hok2;have hsz2:(SyC ⟨vP,lP,fr,vW,lW,wl,vC,lC,vI,lI,il⟩ y2).size=11:=rfl;replace k:=zj ((k.out.call hb5).add hG2 (xp _ _ _));clear hb5 hG2 hok2;go_wp2_with fail;refine zd (yz ⟨_,k.out.turn And.left HPer.out⟩) ?_;refine w1 5 0 (by kernel_rfl) rfl ?_;go_wp2_with((with_reducible refine zx ?_);refine soa k rfl rfl rfl .a0 (by with_reducible assumption) (by with_reducible assumption) (by assumption) ?_;clear k;intro W k);replace k:=zj (k.out.turn And.right (xp _ _ _));refine zd (zJ rfl) ?_;refine zv (by kernel_rfl) ?_ _;clear HPer;replace k:Hid (St _ _ _ [(b36,SyC ⟨vP,lP,fr,vW,lW,wl,vC,lC,vI,lI,il⟩ y2,_),(c63,#[vP,.int .i64 fr,vW,vC,vI,.int .i64 nn,.int .i64 part],_)] _ _ _):=k;obtain⟨now2,sched2,next2,vS2,vA2,own2,S2,A2⟩:=y2;obtain⟨D1,d1,f1,hd1,hdm1⟩:=k.out.fact.2.1.len;dsimp only at f1 hd1;rw[List.length_map] at f1 hd1;subst f1;have hS4:S2.length<=4:=by have h:=OK2.out.Sl;have h2:=(vx HCK.out).1;dsimp only at h;omega
 have hC6:lC.length<=6:=(vx HCK.out).2.2.1;go_wp2_with fail
 go_loopw [7] (fun i W=> ∃ii:Nat,ii<=S2.length/\i= .int .i64 ii/\Hid (Stay (fun _=>False) (fun _=>False) w [(b36,SyC ⟨vP,lP,fr,vW,lW,wl,vC,lC,vI,lI,il⟩ ⟨now2,sched2,next2,.slice D1 S2.length d1,vA2,own2,S2,A2⟩,36),(c63,#[vP,.int .i64 fr,vW,vC,vI,.int .i64 nn,.int .i64 part],63)] (SyG ⟨vP,lP,fr,vW,lW,wl,vC,lC,vI,lI,il⟩ (8*MM) ⟨now2,sched2,next2,.slice D1 S2.length d1,vA2,own2,S2,A2⟩) W)) (fun i _=>S2.length-(intOf i).toNat)
 case atStart=>exact⟨0,Nat.zero_le _,rfl,zj ⟨_,k.out.turn (fun h=>by first|exact h|(rw[Nat.zero_add] at h;exact h)) (xp _ _ _)⟩⟩
 case round=>
  obtain⟨ii,hii,rfl,hS⟩:=hrel;obtain⟨X,kS⟩:=hS.out;clear k hS;have k:=zj kS;clear kS;by_cases hlt:ii<S2.length
  ·have hil:(ii:Int)<S2.length:=by omega
   obtain⟨z2,hz2⟩: ∃z,S2[ii]? =some z:=⟨_,List.getElem?_eq_getElem hlt⟩;have hr2:(S2.map seC)[ii]? =some (seC z2):=by rw[List.getElem?_map,hz2];rfl
   have OKZ:=Lib.hid (OK2.out.seat ii z2 hz2);obtain⟨bs2,os2,eD1,_⟩:=k.out.fact.2.1.row hr2 (by decide);have HED:=Lib.hid eD1;subst eD1;clear HED;have HR2:=Lib.hid hr2;have HZ2:=Lib.hid hz2;have hid2:(ii:Int)<d1:=by omega
   have hKS:=k.out.fact.2.2.1 z2 (List.mem_of_getElem? hz2);have hoK:yZ (KC z2.x):=vY hKS;have hszK:(KC z2.x).size=17:=rfl;obtain⟨bo2,hbo2⟩: ∃a,z2.bo=a:=⟨_,rfl⟩;have hj18:(seC z2)[18]? =some (.int .i64 bo2):=by rw[<-hbo2];rfl
   have hbo1:=OKZ.out.bo.1;rw[hbo2] at hbo1;have HJ18:=Lib.hid hj18;obtain⟨AT,cT,eT,hcT,_⟩:=hKS.Tr.len;obtain⟨AB,cB,eB,hcB,_⟩:=hKS.Bx.len;obtain⟨AP,cP,eP,_,_⟩:=hKS.P.len;obtain⟨Api,cPi,ePi,_,_⟩:=hKS.Pi.len;have hTrl:=OKZ.out.ok.Tr.len;have hnb:=nB_le (s:=MM) (by omega);have hB6:z2.x.Bx.length<=6:=by have h1:=OKZ.out.ok.Isl;have h2:=OKZ.out.ok.Bxl;omega
   have hPl:=OKZ.out.ok.P.len;have hPil:=OKZ.out.ok.Pil;have hBl:=OKZ.out.ok.Bxl;have hIl2:=OKZ.out.ins;have HKE:Hid (KC z2.x= #[.slice AP z2.x.P.length cP,z2.x.vT,.int .i64 z2.x.left,z2.x.vS,.slice Api z2.x.Pi.length cPi,.int .i64 z2.x.hsz,z2.x.vH,.int .u64 z2.x.now,z2.x.vIm,z2.x.vOu,z2.x.vIs,.slice AB z2.x.Bx.length cB,.string z2.x.cons,.slice AT z2.x.Tr.length cT,z2.x.vSe,.int .i64 z2.x.want,.int .i64 z2.x.gone]):=zj (by simp only[KC];rw[eT,eB,eP,ePi]);clear hr2 hz2 hj18 hbo2 hKS;have HD:=zj k.out.fact.2.1
   go_upto_region 13 with(first|((with_reducible refine zz ?_);refine st_load_rowp rfl rfl HD.out HR2.out (by decide) (KC z2.x) (seC_K z2) rfl ⟨_,rfl,by first|rfl|omega⟩ (Tryz.isAgg56 _) (Tryz.sizeOf56 _) ?_)|(first|((with_reducible refine zz ?_);refine ld1 k rfl rfl .a0 (by rfl) ?_)|((with_reducible refine zx ?_);refine soa k rfl rfl rfl .a0 (by with_reducible assumption) (by rfl) (by assumption) ?_;clear k;intro W k)|((with_reducible refine zf ?_);refine ala k Tryz.zeroValue56 ?_;clear k;intro b56 X W k)))
   clear HD;replace k:Hid (St _ _ _ [(b56,KC z2.x,_),(b36,SyC ⟨vP,lP,fr,vW,lW,wl,vC,lC,vI,lI,il⟩ ⟨now2,sched2,next2,.slice (some ⟨bs2,os2,none⟩) S2.length d1,vA2,own2,S2,A2⟩,_),(c63,#[vP,.int .i64 fr,vW,vC,vI,.int .i64 nn,.int .i64 part],_)] _ _ _):=k;rw[HKE.out] at k;clear hoK hszK;go_wp2_with fail
   go_loopw [9] (fun i W=> ∃kk:Nat,kk<=z2.x.Tr.length/\i= .int .i64 kk/\Hid (Stay (fun _=>False) (fun _=>False) w [(b56,#[.slice AP z2.x.P.length cP,z2.x.vT,.int .i64 z2.x.left,z2.x.vS,.slice Api z2.x.Pi.length cPi,.int .i64 z2.x.hsz,z2.x.vH,.int .u64 z2.x.now,z2.x.vIm,z2.x.vOu,z2.x.vIs,.slice AB z2.x.Bx.length cB,.string z2.x.cons,.slice AT z2.x.Tr.length cT,z2.x.vSe,.int .i64 z2.x.want,.int .i64 z2.x.gone],56),(b36,SyC ⟨vP,lP,fr,vW,lW,wl,vC,lC,vI,lI,il⟩ ⟨now2,sched2,next2,.slice (some ⟨bs2,os2,none⟩) S2.length d1,vA2,own2,S2,A2⟩,36),(c63,#[vP,.int .i64 fr,vW,vC,vI,.int .i64 nn,.int .i64 part],63)] (SyG ⟨vP,lP,fr,vW,lW,wl,vC,lC,vI,lI,il⟩ (8*MM) ⟨now2,sched2,next2,.slice (some ⟨bs2,os2,none⟩) S2.length d1,vA2,own2,S2,A2⟩) W)) (fun i _=>z2.x.Tr.length-(intOf i).toNat)
   case atStart=>exact⟨0,Nat.zero_le _,rfl,zj ⟨_,k.out⟩⟩
   case round=>
    obtain⟨kk,hkk,rfl,hS⟩:=hrel;obtain⟨X,kS⟩:=hS.out;clear k hS;have k:=zj kS;clear kS;by_cases hkl:kk<z2.x.Tr.length
    ·have hkli:(kk:Int)<z2.x.Tr.length:=by omega
     obtain⟨r,hr⟩: ∃r,z2.x.Tr[kk]? =some r:=⟨_,List.getElem?_eq_getElem hkl⟩;have hrm:=List.mem_of_getElem? hr;have hty:=OKZ.out.ok.Tr.ty r hrm;have hpd:=OKZ.out.ok.Tr.pid r hrm;have hat:=OKZ.out.tr r hrm;obtain⟨q0,q1,q2,q3,rfl⟩:=event_lit hty;have hpd:1<=q0:=hpd;have hat:q3<z2.x.now:=hat;have hsT:=(k.out.fact.2.2.1 z2 (List.mem_of_getElem? HZ2.out)).Tr;rw[eT] at hsT;obtain⟨bT,oT,eA,_⟩:=hsT.row hr (by decide);have HEA:=Lib.hid eA;subst eA;clear HEA;have HR:=Lib.hid hr;have hklc:(kk:Int)<cT:=by omega
     have HDT:=Lib.hid hsT;have d1':decide (q0<1)=false:=decide_eq_false (by omega);have d2':decide (z2.x.now<=q3)=false:=decide_eq_false (by omega);have HTE:=Lib.hid eT;clear hr hsT hty eT;by_cases hk0:0<kk
     ·have dk0:decide ((0:Int)<(kk:Int))=true:=decide_eq_true (by omega)
      obtain⟨m,rfl⟩: ∃m,kk=m+1:=⟨kk-1,by omega⟩;have hwm:IntKind.i64.wrap (m:Int)=m:=xg (by omega) (by omega);obtain⟨r2,hrr2⟩: ∃r,z2.x.Tr[m]? =some r:=⟨_,List.getElem?_eq_getElem (by omega)⟩;obtain⟨p0,p1,p2,p3,rfl⟩:=event_lit (OKZ.out.ok.Tr.ty r2 (List.mem_of_getElem? hrr2));have hrise:p3<=q3:=by
       have h:=List.pairwise_iff_getElem.1 OKZ.out.ok.Tr.rise m (m+1) (by omega) hkl (by omega);have e1:=(List.getElem?_eq_some_iff.1 hrr2).2;have e2:=(List.getElem?_eq_some_iff.1 HR.out).2;rw[e1,e2] at h;exact h
      have d3':decide (q3<p3)=false:=decide_eq_false (by omega);have hml:(m:Int)<z2.x.Tr.length:=by omega
      have hmc:(m:Int)<cT:=by omega
      have HRR2:=Lib.hid hrr2;clear hrr2 hk0
      go_upto_region 17 with(first|((with_reducible refine zz ?_);refine xV rfl rfl HDT.out HR.out (by decide) rfl ⟨_,rfl,by first|rfl|omega⟩ (Tryz.isAgg68 _) (Tryz.sizeOf68 _) ?_)|(first|((with_reducible refine zz ?_);refine ld1 k rfl rfl .a0 (by rfl) ?_)|((with_reducible refine zx ?_);refine soa k rfl rfl rfl .a0 (by rfl) (by rfl) (zm rfl) ?_;clear k;intro W k)|((with_reducible refine zf ?_);refine ala k Tryz.zeroValue68 ?_;clear k;intro b68 X W k)))
      replace k:Hid (St _ _ _ [(b68,#[.int .i64 q0,.int .u32 q1,.int .u32 q2,.int .u64 q3],_),(b56,#[.slice AP z2.x.P.length cP,z2.x.vT,.int .i64 z2.x.left,z2.x.vS,.slice Api z2.x.Pi.length cPi,.int .i64 z2.x.hsz,z2.x.vH,.int .u64 z2.x.now,z2.x.vIm,z2.x.vOu,z2.x.vIs,.slice AB z2.x.Bx.length cB,.string z2.x.cons,.slice (some ⟨bT,oT,none⟩) z2.x.Tr.length cT,z2.x.vSe,.int .i64 z2.x.want,.int .i64 z2.x.gone],_),(b36,_,_),(c63,_,_)] _ _ _):=k;have HPer:=Lib.hid k.out.per;refine zt k 26 26 (by kernel_rfl) rfl ?_;clear k;intro W k;refine zq [(0,some 74,[]),(1,some 75,[]),(2,some 76,[]),(3,some 77,[]),(4,some 78,[]),(5,some 79,[]),(6,some 80,[]),(7,some 81,[]),(8,some 82,[]),(9,some 83,[]),(10,some 84,[]),(11,some 85,[]),(12,some 86,[]),(13,some 87,[]),(14,some 88,[]),(15,some 89,[]),(16,some 90,[]),(17,some 91,[]),(18,some 92,[]),(19,some 93,[]),(20,some 94,[]),(21,some 95,[]),(22,some 96,[]),(23,some 97,[]),(24,some 98,[]),(25,some 99,[])] [?v2_0,?v2_1,?v2_2,?v2_3,?v2_4,?v2_5,?v2_6,?v2_7,?v2_8,?v2_9,?v2_10,?v2_11,?v2_12,?v2_13,?v2_14,?v2_15,?v2_16,?v2_17,?v2_18,?v2_19,?v2_20,?v2_21,?v2_22,?v2_23,?v2_24,?v2_25] 0 (by kernel_rfl) ⟨_,k.out⟩ ?l2 ?h2;case l2=>
       intro w' hSw;iterate 20
        refine lkw rfl rfl (by rfl) ?_ ?_
        ·first|((with_reducible refine yw ?_);first|exact hSw.l1 rfl rfl (by repeat constructor) (by rfl))|(go_simp<;>with_reducible rfl)
        try simp only[Act.put,tS,t0,t1]
       refine lkw rfl rfl (by rfl) ?_ ?_
       ·refine yG rfl ?_
        obtain⟨X',hX'⟩:=hSw.get;have hs':=(hX'.2.2.1 z2 (List.mem_of_getElem? HZ2.out)).Tr;rw[HTE.out] at hs';exact ql hs' HRR2.out (by decide) (j:=3) rfl (Tryz.isAgg32 _)
       try simp only[Act.put,tS,t0,t1]
       iterate 5
        refine lkw rfl rfl (by rfl) ?_ ?_
        ·first|((with_reducible refine yw ?_);first|exact hSw.l1 rfl rfl .a0 (by rfl))|(go_simp<;>with_reducible rfl)
        try simp only[Act.put,tS,t0,t1]
       trivial
      simp only[zw,zk,Act.put,tS,t0,t1];refine zv (by kernel_rfl) ?_ _;clear HPer;go_wp2_with fail
      go_roundw
      case rel=>exact⟨m+1+1,by omega,by go_num,zj ⟨_,k.out.drop (n:=1)⟩⟩
      case measure=>simp[intOf];omega
     ·have dk0:decide ((0:Int)<(kk:Int))=false:=decide_eq_false (by omega)
      obtain rfl:kk=0:=by omega
      clear hk0
      go_upto_region 17 with(first|((with_reducible refine zz ?_);refine xV rfl rfl HDT.out HR.out (by decide) rfl ⟨_,rfl,by first|rfl|omega⟩ (Tryz.isAgg68 _) (Tryz.sizeOf68 _) ?_)|(first|((with_reducible refine zz ?_);refine ld1 k rfl rfl .a0 (by rfl) ?_)|((with_reducible refine zx ?_);refine soa k rfl rfl rfl .a0 (by rfl) (by rfl) (zm rfl) ?_;clear k;intro W k)|((with_reducible refine zf ?_);refine ala k Tryz.zeroValue68 ?_;clear k;intro b68 X W k)))
      replace k:Hid (St _ _ _ [(b68,#[.int .i64 q0,.int .u32 q1,.int .u32 q2,.int .u64 q3],_),(b56,#[.slice AP z2.x.P.length cP,z2.x.vT,.int .i64 z2.x.left,z2.x.vS,.slice Api z2.x.Pi.length cPi,.int .i64 z2.x.hsz,z2.x.vH,.int .u64 z2.x.now,z2.x.vIm,z2.x.vOu,z2.x.vIs,.slice AB z2.x.Bx.length cB,.string z2.x.cons,.slice (some ⟨bT,oT,none⟩) z2.x.Tr.length cT,z2.x.vSe,.int .i64 z2.x.want,.int .i64 z2.x.gone],_),(b36,_,_),(c63,_,_)] _ _ _):=k;have HPer:=Lib.hid k.out.per;refine zt k 26 26 (by kernel_rfl) rfl ?_;clear k;intro W k;refine zq [(0,some 74,[]),(1,some 75,[]),(2,some 76,[]),(3,some 77,[]),(4,some 78,[]),(5,some 79,[]),(6,some 80,[]),(7,some 81,[]),(8,some 82,[]),(9,some 83,[]),(10,some 84,[]),(11,some 85,[]),(12,some 86,[]),(13,some 87,[]),(14,some 88,[]),(15,some 89,[]),(16,some 90,[]),(17,some 91,[]),(18,some 92,[]),(19,some 93,[]),(20,some 94,[]),(21,some 95,[]),(22,some 96,[]),(23,some 97,[]),(24,some 98,[]),(25,some 99,[])] [?v3_0,?v3_1,?v3_2,?v3_3,?v3_4,?v3_5,?v3_6,?v3_7,?v3_8,?v3_9,?v3_10,?v3_11,?v3_12,?v3_13,undef,undef,undef,undef,undef,undef,undef,undef,undef,undef,?v3_24,?v3_25] 0 (by kernel_rfl) ⟨_,k.out⟩ ?l3 ?h3;case l3=>
       intro w' hSw;iterate 14
        refine lkw rfl rfl (by rfl) ?_ ?_
        ·first|((with_reducible refine yw ?_);first|exact hSw.l1 rfl rfl (by repeat constructor) (by rfl))|(go_simp<;>with_reducible rfl)
        try simp only[Act.put,tS,t0,t1]
       iterate 10
        refine lks rfl rfl (by rfl) ?_;try simp only[Act.put,tS,t0,t1]
       iterate 2
        refine lkw rfl rfl (by rfl) ?_ ?_
        ·go_simp<;>with_reducible rfl
        try simp only[Act.put,tS,t0,t1]
       trivial
      simp only[zw,zk,Act.put,tS,t0,t1];refine zv (by kernel_rfl) ?_ _;clear HPer;go_wp2_with fail
      go_roundw
      case rel=>exact⟨0+1,by omega,by go_num,zj ⟨_,k.out.drop (n:=1)⟩⟩
      case measure=>simp[intOf];omega
    ·obtain rfl:kk=z2.x.Tr.length:=by omega
     have hkli:(z2.x.Tr.length:Int)<=z2.x.Tr.length:=Int.le_refl _;clear hkl;have e6:decide ((6:Int)<z2.x.P.length)=false:=decide_eq_false (by omega);have e4:decide ((4:Int)<z2.x.Pi.length)=false:=decide_eq_false (by omega);have eb:decide (bo2<1)=false:=decide_eq_false (by omega)
     go_upto_region 19 with((with_reducible refine zz ?_);refine ld1 k rfl rfl .a0 (by rfl) ?_)
     have HPer:=Lib.hid k.out.per;refine zt k 30 30 (by kernel_rfl) rfl ?_;clear k;intro W k;refine zq [(0,some 100,[]),(1,some 101,[]),(2,some 102,[]),(3,some 103,[]),(4,some 104,[]),(5,some 105,[]),(6,some 106,[]),(7,some 107,[]),(8,some 108,[]),(9,some 109,[]),(10,some 110,[]),(11,some 111,[]),(12,some 112,[]),(13,some 113,[]),(14,some 114,[]),(15,some 115,[]),(16,some 116,[])] [?v4_0,?v4_1,?v4_2,?v4_3,?v4_4,?v4_5,?v4_6,?v4_7,?v4_8,?v4_9,?v4_10,?v4_11,?v4_12,?v4_13,?v4_14,?v4_15,?v4_16] 13 (by kernel_rfl) ⟨_,k.out⟩ ?l4 ?h4;case l4=>
      intro w' hSw;iterate 17
       refine lkw rfl rfl (by rfl) ?_ ?_
       ·first|((with_reducible refine yw ?_);first|exact hSw.l1 rfl rfl (by repeat constructor) (by rfl)|exact hSw.la rfl rfl .a2 (by first|with_reducible assumption|rfl) (by rfl)|exact hSw.lp rfl rfl .a2 (D:= #[_,_,_,_]) (by rfl) (by rfl) (by rfl))|(go_simp<;>with_reducible rfl)
       try simp only[Act.put,tS,t0,t1]
      trivial
     simp only[zw,zk,Act.put,tS,t0,t1];refine w1 17 12 (by kernel_rfl) rfl ?_;go_wp2_with fail;refine(ins15_any vP fr vW vC lC ii _ _ k.out.lt k.out.fact.1.1.2.2.2 HT.out.C (by omega)).mono ?_;rintro e W6 ⟨v6,rfl,hsl6,hb6⟩;obtain⟨A6,c6,e6',_,_⟩:=hsl6.len;rw[<-hIl2,<-hBl] at e6';subst e6';replace k:=zj (k.out.call hb6);clear hb6 hsl6;have ebb:((z2.x.Bx.length:Int)==(z2.x.Bx.length:Int))=true:=by rw[beq_iff_eq]
     go_wp2_with fail;refine zd (yz ⟨_,k.out⟩) ?_;refine zq [(18,some 118,[]),(19,some 119,[]),(20,some 120,[]),(21,some 121,[]),(22,some 122,[]),(23,some 123,[]),(24,some 124,[]),(25,some 125,[]),(26,some 126,[]),(27,some 127,[]),(28,some 128,[]),(29,some 129,[])] [?v5_18,?v5_19,?v5_20,?v5_21,?v5_22,?v5_23,?v5_24,?v5_25,?v5_26,?v5_27,?v5_28,?v5_29] 0 (by kernel_rfl) ⟨_,k.out⟩ ?l5 ?h5;case l5=>
      intro w' hSw;iterate 9
       refine lkw rfl rfl (by rfl) ?_ ?_
       ·first|((with_reducible refine yw ?_);first|exact hSw.l1 rfl rfl .a1 (by rfl))|(go_simp<;>with_reducible rfl)
       try simp only[Act.put,tS,t0,t1]
      refine lkw rfl rfl (by rfl) ?_ ?_
      ·refine yG rfl ?_
       obtain⟨X',hX'⟩:=hSw.get;exact ql hX'.2.1 HR2.out (by decide) (j:=18) HJ18.out (Tryz.isAgg3 _)
      try simp only[Act.put,tS,t0,t1]
      iterate 2
       refine lkw rfl rfl (by rfl) ?_ ?_
       ·go_simp<;>with_reducible rfl
       try simp only[Act.put,tS,t0,t1]
      trivial
     simp only[zw,zk,Act.put,tS,t0,t1];refine zv (by kernel_rfl) ?_ _;clear HPer;go_wp2_with fail
     go_loopw [11] (fun i W=> ∃kk:Nat,kk<=z2.x.Bx.length/\i= .int .i64 kk/\Hid (Stay (fun _=>False) (fun _=>False) w [(b56,#[.slice AP z2.x.P.length cP,z2.x.vT,.int .i64 z2.x.left,z2.x.vS,.slice Api z2.x.Pi.length cPi,.int .i64 z2.x.hsz,z2.x.vH,.int .u64 z2.x.now,z2.x.vIm,z2.x.vOu,z2.x.vIs,.slice AB z2.x.Bx.length cB,.string z2.x.cons,.slice AT z2.x.Tr.length cT,z2.x.vSe,.int .i64 z2.x.want,.int .i64 z2.x.gone],56),(b36,SyC ⟨vP,lP,fr,vW,lW,wl,vC,lC,vI,lI,il⟩ ⟨now2,sched2,next2,.slice (some ⟨bs2,os2,none⟩) S2.length d1,vA2,own2,S2,A2⟩,36),(c63,#[vP,.int .i64 fr,vW,vC,vI,.int .i64 nn,.int .i64 part],63)] (SyG ⟨vP,lP,fr,vW,lW,wl,vC,lC,vI,lI,il⟩ (8*MM) ⟨now2,sched2,next2,.slice (some ⟨bs2,os2,none⟩) S2.length d1,vA2,own2,S2,A2⟩) W)) (fun i _=>z2.x.Bx.length-(intOf i).toNat)
     case atStart=>exact⟨0,Nat.zero_le _,rfl,zj ⟨_,k.out⟩⟩
     case round=>
      obtain⟨kk,hkk,rfl,hS⟩:=hrel;obtain⟨X,kS⟩:=hS.out;clear k hS;have k:=zj kS;clear kS;by_cases hkb:kk<z2.x.Bx.length
      ·have hkbi:(kk:Int)<z2.x.Bx.length:=by omega
       obtain⟨r,hr⟩: ∃r,z2.x.Bx[kk]? =some r:=⟨_,List.getElem?_eq_getElem hkb⟩;have hKS:=k.out.fact.2.2.1 z2 (List.mem_of_getElem? HZ2.out);obtain⟨bv,bl,bx,⟨rfl,_,hbl8,_,_⟩,hsb⟩:=hKS.bx r (List.mem_of_getElem? hr);obtain⟨A7,c7,rfl,_,_⟩:=hsb.len;have hsB:=hKS.Bx;rw[eB] at hsB;obtain⟨bB,oB,eA,_⟩:=hsB.row hr (by decide);have HEA:=Lib.hid eA;subst eA;clear HEA;have HR:=Lib.hid hr;have HDB:=Lib.hid hsB;have hkbc:(kk:Int)<cB:=by omega
       have d8:decide ((8:Int)<bl.length)=false:=decide_eq_false (by omega);clear hr hsB hKS hsb;go_wp2_with(first|((with_reducible refine zz ?_);refine xX rfl rfl HDB.out HR.out (by decide) 0 rfl rfl ⟨_,rfl,by first|rfl|omega⟩ (Tryz.isAgg70 _) ?_)|((with_reducible refine zz ?_);refine ld1 k rfl rfl .a0 (by rfl) ?_))
       go_roundw
       case rel=>exact⟨kk+1,by omega,by go_num,zj ⟨_,k.out⟩⟩
       case measure=>simp[intOf];omega
      ·obtain rfl:kk=z2.x.Bx.length:=by omega
       have hkbi:(z2.x.Bx.length:Int)<=z2.x.Bx.length:=Int.le_refl _;go_wp2_with((with_reducible refine zz ?_);refine ld1 k rfl rfl .a0 (by rfl) ?_)
       go_roundw
       case rel=>exact⟨ii+1,by omega,by go_num,zj ⟨_,k.out.drop (n:=1)⟩⟩
       case measure=>simp[intOf];omega
  ·have hil:(S2.length:Int)<=ii:=by omega
   go_wp2_with((with_reducible refine zz ?_);refine ld1 k rfl rfl .a0 (by rfl) ?_);exact bodyPost_ret (zh rfl rfl) rfl ⟨rfl,k.out.end⟩
end
section
open Go.ChangeShapes Go.WideShapes Go.ChangeAt Go.RowKit Go.Joins Go.ChangeMaps Go.Proofs.YtaccidkgnkmagaaGreatDoor.Isa
theorem odd_contract(H:Type)(enc:TypeId×Value->H)(W:World)(base:Nat)(args:Array Value)(ds gs:List (DataW H))(before:List MemPlace)
  (hval: ∀(j:Nat) t v,Tryz.f4.params[j]? =some t->args[j]? =some v->Value.okWide Tryz.prog W .any base t v)
  (hW:DataW.Whole enc Tryz.prog Tryz.f4.params.toList Rows.topOddSpec.vars false W args.toList ds gs before) (hL:laidMetH Tryz.prog Rows.topOddUptoRow.laid W) (hc:Rows.uptoSmall H (ds++gs)=true):
  Calls Tryz.prog 4 args W fun e W'=> ∃v,e= .returned v/\Rows.topOddSpec.post enc Tryz.prog Tryz.f4 false true false false W args v W':=by
 have hW':=hW;obtain⟨p,q,hA0,hV,rfl,hfz,hnd⟩:=hW;have hA:DataW.TrodAll enc Tryz.prog W 0 (fun _=>true) true Tryz.f4.params.toList args.toList ds p:=hA0;rw[Tryz.params4] at hA hval;obtain⟨v0,d0,rfl,rfl,h0⟩:=trodAll_one hA;obtain⟨rfl,rfl⟩:=trodVars_none hV;have hq:=bulk_one hc;obtain⟨pn,nn,part,rfl,hAs⟩:=open_asked Tryz.underlying63 rfl (by kernel_rfl) (hval 0 63 v0 rfl rfl) h0 hq;have hT:Tab W:=tab_of (Lib.tabIs_of_head (rest:=[]) gUses gUsesType Tryz.underlying288 Tryz.underlying3 cellsInt cellsUses hL);refine(odd_any pn nn part W hAs.G hAs.T hAs.img hAs.iml hAs.ile hAs.f0 hAs.f1 hT).mono fun e W' ⟨he,hb⟩=> ?_;subst he;exact⟨_,rfl,law_post laidOut (by kernel_rfl) Tryz.underlying4 (by kernel_rfl) rfl hW' rfl hb⟩
theorem odd_met(os:Os):laidMet Tryz.prog Rows.topOddUptoRow.laid ((gh os).forCall (fun _ _=>0) ⟨#[],#[.agg #[.slice none 0 0,.int .i64 0,.slice none 0 0,.slice none 0 0,.slice none 0 0,.int .i64 0,.int .i64 0]],[]⟩).memory:=
 laidMet_of_run' 8 (by kernel_rfl) (by kernel_rfl)
theorem odd_reads(os:Os){H:Type}(enc:TypeId×Value->H): ∃places,DataW.whole enc Tryz.prog ((gh os).forCall (fun _ _=>0) ⟨#[],#[.agg #[.slice none 0 0,.int .i64 0,.slice none 0 0,.slice none 0 0,.slice none 0 0,.int .i64 0,.int .i64 0]],[]⟩).memory Tryz.f4.params.toList Rows.topOddSpec.vars false (#[.agg #[.slice none 0 0,.int .i64 0,.slice none 0 0,.slice none 0 0,.slice none 0 0,.int .i64 0,.int .i64 0]]:Array Value).toList 8=some ([.agg [.agg [.nil,.lit (.int .i64 0),.nil,.nil],.nil,.lit (.int .i64 0),.lit (.int .i64 0)]],[],places):=
 ⟨[],by kernel_rfl⟩
set_option maxRecDepth 100000 in
theorem odd_lifted(os:Os)(started:os.Started)(H:Type)(enc:TypeId×Value->H)(F:Stop.Interp):
  ReturnsInHanded {} Tryz.checked os 4 .any ((Rows.OpenSpec.upto Rows.topOddSpec).preRow enc Tryz.prog Tryz.f4 Rows.topOddUptoRow.domain false Rows.topOddUptoRow.laid) (((Rows.OpenSpec.upto Rows.topOddSpec).at F).post enc Tryz.prog Tryz.f4 false true false false):=by
 obtain⟨places,hx⟩:=odd_reads os enc;refine returnsInHanded_of_row (C:=Tryz.checked) (s:=Rows.OpenSpec.upto Rows.topOddSpec) own started (by kernel_rfl) Tryz.func4
  (witness_row_at (enc:=enc) (C:=Tryz.checked) false (gh os) #[.agg #[.slice none 0 0,.int .i64 0,.slice none 0 0,.slice none 0 0,.slice none 0 0,.int .i64 0,.int .i64 0]] rfl (by kernel_rfl) (by kernel_rfl) (by kernel_rfl)
   (OpenSpec.preRow_of_cond 8 hx (by kernel_rfl) (fun k hk=>by cases hk;kernel_rfl) (by kernel_rfl) (odd_met os))) ?_
 intro W base args ds gs before hval hW _ hcond _ hL _ _;exact odd_contract H enc W base args ds gs before hval hW hL (hcond _ rfl)
theorem odd_said:Rows.TopOddUptoSaid:=
 OpenClaim.holds_of_cond 4 Tryz.f4 rfl rfl rfl rfl rfl rfl rfl ⟨rfl,rfl,rfl,rfl,rfl⟩ rfl rfl rfl rfl rfl (by kernel_rfl) Tryz.func4 (by kernel_rfl)
  (of_decide_eq_true (by kernel_rfl)) (by unfold Func.isWrapper;first|(rw[if_pos (by decide+kernel)];kernel_rfl)|(rw[if_neg (by decide+kernel)];exact⟨rfl,rfl⟩))
  (fun os started H enc _ F=>by rw[OpenClaim.pre_eq_preRow];exact odd_lifted os started H enc F)
theorem odd_plain(f:FuncId)(fn:Func)(hf:Tryz.pinned.checked.prog.funcNamed "transom/transomtop.TopOdd" =some f)(hfn:Tryz.pinned.checked.prog.funcs[f]? =some fn):
  false=Tryz.pinned.checked.prog.looks []/\ ∀(j:Nat) t,fn.params[j]? =some t->Tryz.pinned.checked.prog.wantsStandIn t=false:=by
 obtain rfl:f=4:=Option.some.inj ((show Tryz.prog.funcNamed "transom/transomtop.TopOdd" =some 4 by kernel_rfl).symm.trans hf)|>.symm
 obtain rfl:fn=Tryz.f4:=(Option.some.inj (Tryz.func4.symm.trans hfn)).symm;refine⟨by kernel_rfl,fun j t ht=> ?_⟩;rw[Tryz.params4] at ht;have hm:t∈ [63]:=by simpa using Array.mem_of_getElem? ht
 have hall:([63].all fun u=> !Tryz.prog.wantsStandIn u)=true:=by kernel_rfl
 exact(show Tryz.prog.wantsStandIn t=false by simpa using List.all_eq_true.1 hall t hm)
theorem odd_holds:Rows.TopOddUptoCardSaid:=
 Claim7.holds_tied_plain_at .later [] _ _ _ _ odd_said (fun _ h=>by cases h) (by kernel_rfl) (fun _ h=>by cases h) topOddUpto_row_tie rfl ⟨rfl,rfl⟩ (by kernel_rfl) rfl odd_plain (by kernel_rfl)
end
end Go.Proofs.YtaccidkgnkmagaaGreatDoor.Top
