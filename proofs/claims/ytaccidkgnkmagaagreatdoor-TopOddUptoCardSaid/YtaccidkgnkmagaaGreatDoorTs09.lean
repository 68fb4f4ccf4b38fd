/-
  Walks and laws of the whole machine: Kern1, Kern2, Kern3, Kern4, Seg. Conditions: each theorem names its own.
-/
import Derived.Test.YtaccidkgnkmagaaGreatDoorTs08
import Derived.Laws.IdiomStrings
import Derived.Lib.LazyBuf
set_option maxRecDepth 16000
set_option maxHeartbeats 12800000
set_option linter.unusedVariables false
set_option linter.unusedSimpArgs false
namespace Go.Proofs.YtaccidkgnkmagaaGreatDoor.Top
open Go.RowKit
theorem results_none{P:Program}{w:World}{fn:Func}(h:fn.results= #[])(tmps:Array Value):(results fn tmps).run P w= .ok (.tuple #[]) w:=by
 simp[results,h,go_sem]
theorem yU{u v:Value}(hu:u.oneCell'=true)(hv:v.oneCell'=true):yZ #[u,v]:=by
 intro z hz;simp only[List.mem_cons,List.not_mem_nil,or_false] at hz;rcases hz with rfl|rfl
 ·exact hu
 ·exact hv
def qk(N A B C:Int):Prop:=(0<=N/\N<4294967296)/\(0<=A/\A<4294967296)/\(0<=B/\B<4294967296)/\(0<=C/\C<4294967296)
theorem ok_call{N A B C:Int}(h:qk N A B C):Ty kCall #[.int .u32 N,.int .u32 A,.int .u32 B,.int .u32 C]:=⟨ju h.1.1 h.1.2,ju h.2.1.1 h.2.1.2,ju h.2.2.1.1 h.2.2.1.2,ju h.2.2.2.1 h.2.2.2.2,trivial⟩
def AnsR(x:Kn)(e:Ending)(x':Kn):Prop:=e= .returned (.tuple #[])/\xh x'.P=xh x.P/\Liv x.P x'.P/\x'.gone=x.gone/\x'.want=x.want
theorem zCall_ty:Ty kCall #[.int .u32 0,.int .u32 0,.int .u32 0,.int .u32 0]:=⟨⟨0,rfl,by decide,by decide⟩,⟨0,rfl,by decide,by decide⟩,⟨0,rfl,by decide,by decide⟩,⟨0,rfl,by decide,by decide⟩,trivial⟩
theorem POk.pid1{n:Nat}{P:List (Array Value)}(h:POk n P){y:Int}(hy:y∈xh P):1<=y:=by
 obtain⟨q,hq,rfl⟩:=qy.1 hy;exact(h.pid q hq).1
theorem ok_pid{r:Array Value}(h:Ty yu r):okV .i64 (.int .i64 (zX r)):=by
 have:=ty_rng h 0 rfl;exact⟨_,rfl,this⟩
theorem cpu_of_proc{r:Array Value}(h:Ty yu r):Ty vZ (r.extract 3 (3+9)):=h.part 3 9 (by decide)
theorem yV(bk n s m:Nat)(x:Kn)(X0:Nat->Prop)(w:World)(h:KPre bk n s m x X0 w)(r:Array Value)(hr:Ty yu r)(hin:zX r∈xh x.P)(hpar:0<=ym r/\ym r<zX r)(N A B C v ev:Int)(hc:qk N A B C)(h0:0<=v)(h1:v<4294967296):
  Calls Tryz.prog 89 #[.pointer (some ⟨bk,0,none⟩),.agg r,.agg #[.int .u32 N,.int .u32 A,.int .u32 B,.int .u32 C],.int .u32 v,.int .i64 ev] w (qX bk (n+1) s m x X0 w (AnsR x)):=by
 have k:=zj h.begin;obtain⟨Atr,ct,eTr,hct,hcm⟩:=h.sl.Tr.len;unfold maxLen at hcm;have OK:=Lib.hid h.ok;have HB:=Lib.hid h.blk;have hn:=h.hn;clear h;have HC:Hid (Ty vZ _):=cpu_of_proc hr;have HR:=Lib.hid hr;obtain⟨a,pb,c,c0,c1,c2,c3,c4,c5,c6,c7,c8,mm,d,f0,g0,f1,g1,f2,g2,f3,g3,n0,n1,n2,n3,rfl⟩:=Zd hr;clear hr;go_enter Tryz.func89,Tryz.ntmps89;go_wp2_with(first|((with_reducible refine zz ?_);refine ldp k rfl rfl .a1 (D:= #[_,_,_,_,_,_,_,_,_]) (by rfl) (by rfl) ?_)|((with_reducible refine zI ?_);refine bxa k rfl ?_;clear k;intro b X W k));refine(cback_any #[.int .u32 c0,.int .u32 c1,.int .u32 c2,.int .u32 c3,.int .u32 c4,.int .u32 c5,.int .u32 c6,.int .u32 c7,.int .u32 c8] ev v W HC.out h0 h1).mono ?_;rintro e W1 ⟨D,rfl,hD,hb⟩;have HD:=Lib.hid hD;obtain⟨d0,d1,d2,d3,d4,d5,d6,d7,d8,rfl⟩:=cpu_lit hD;replace k:=zj (k.out.call hb);clear hb hD
 go_upto_region 3 with((with_reducible refine zx ?_);first|(refine so1 k rfl rfl rfl (by rfl) .a1 (by rfl) rfl ?_;clear k;intro W k)|(refine sop k rfl rfl rfl .a1 (by rfl) (by rfl) (zm rfl) rfl ?_;clear k;intro W k))
 replace k:Hid (St _ _ _ [(_,_,_),(_,#[.int .i64 a,.int .i64 pb,.int .i64 1,.int .u32 d0,.int .u32 d1,.int .u32 d2,.int .u32 d3,.int .u32 d4,.int .u32 d5,.int .u32 d6,.int .u32 d7,.int .u32 d8,.string mm,.int .i64 d,.int .i64 f0,.bool g0,.int .i64 f1,.bool g1,.int .i64 f2,.bool g2,.int .i64 f3,.bool g3,.int .u32 0,.int .u32 0,.int .u32 0,.int .u32 0],_),(_,_,_)] _ _ _):=k;have hT:Ty yu #[.int .i64 a,.int .i64 pb,.int .i64 1,.int .u32 d0,.int .u32 d1,.int .u32 d2,.int .u32 d3,.int .u32 d4,.int .u32 d5,.int .u32 d6,.int .u32 d7,.int .u32 d8,.string mm,.int .i64 d,.int .i64 f0,.bool g0,.int .i64 f1,.bool g1,.int .i64 f2,.bool g2,.int .i64 f3,.bool g3,.int .u32 0,.int .u32 0,.int .u32 0,.int .u32 0]:=((HR.out.set (j:=2) rfl (yY (x:=1) (by decide) (by decide))).patch HD.out 3 rfl (by decide)).patch zCall_ty 22 rfl (by decide);have hin1:zX #[.int .i64 a,.int .i64 pb,.int .i64 1,.int .u32 d0,.int .u32 d1,.int .u32 d2,.int .u32 d3,.int .u32 d4,.int .u32 d5,.int .u32 d6,.int .u32 d7,.int .u32 d8,.string mm,.int .i64 d,.int .i64 f0,.bool g0,.int .i64 f1,.bool g1,.int .i64 f2,.bool g2,.int .i64 f3,.bool g3,.int .u32 0,.int .u32 0,.int .u32 0,.int .u32 0]∈xh x.P:=hin;have hPO:=OK.out.P.put hT hin hpar;have hLv:=liv_put OK.out.P (r:= #[.int .i64 a,.int .i64 pb,.int .i64 1,.int .u32 d0,.int .u32 d1,.int .u32 d2,.int .u32 d3,.int .u32 d4,.int .u32 d5,.int .u32 d6,.int .u32 d7,.int .u32 d8,.string mm,.int .i64 d,.int .i64 f0,.bool g0,.int .i64 f1,.bool g1,.int .i64 f2,.bool g2,.int .i64 f3,.bool g3,.int .u32 0,.int .u32 0,.int .u32 0,.int .u32 0]) hin (fun _ _ _ _=>by show((1:Int)≠4);decide);have HT:=Lib.hid hT;clear hT;generalize hlP:jV x.P #[.int .i64 a,.int .i64 pb,.int .i64 1,.int .u32 d0,.int .u32 d1,.int .u32 d2,.int .u32 d3,.int .u32 d4,.int .u32 d5,.int .u32 d6,.int .u32 d7,.int .u32 d8,.string mm,.int .i64 d,.int .i64 f0,.bool g0,.int .i64 f1,.bool g1,.int .i64 f2,.bool g2,.int .i64 f3,.bool g3,.int .u32 0,.int .u32 0,.int .u32 0,.int .u32 0]=lP at hPO hLv;have HPer:=Lib.hid k.out.per;refine zt k 11 12 (by kernel_rfl) rfl ?_;clear k;intro W k;refine zq [(0,some 19,[11]),(1,some 20,[11]),(2,some 21,[11]),(3,some 22,[11]),(4,some 23,[11]),(5,some 24,[11]),(6,some 25,[11])] [?v1_0,?v1_1,?v1_2,?v1_3,?v1_4,?v1_5,?v1_6] 5 (by kernel_rfl) ⟨_,k.out⟩ ?l1 ?h1;case l1=>
  intro w' hSw;iterate 7
   refine lkw rfl rfl (by rfl) ?_ ?_
   ·first|((with_reducible refine yw ?_);first|exact hSw.l1 rfl rfl (by repeat constructor) (by rfl)|exact hSw.la rfl rfl .a1 (by rfl) (by rfl))|(go_simp<;>with_reducible rfl)
   try simp only[Act.put,tS,t0,t1]
  trivial
 simp only[zw,zk,Act.put,tS,t0,t1];refine w1 7 4 (by kernel_rfl) rfl ?_;go_wp2_with fail;refine(vj _ x.P _ _ W k.out.fact.P OK.out.P.ty HT.out (by have:=OK.out.P.len;omega)).mono ?_;rw[hlP];rintro e W1 ⟨v1,rfl,hown,hb⟩;have hv1:=xu hown;have hf:=zV hown (fun q hq=>(hPO.ty q hq).size) k.out.lt;replace k:=zj (k.out.call hb);clear hown hb;go_wp2_with fail;refine zd (yz ⟨_,k.out⟩) ?_;refine zq [(8,some 27,[9,10,11]),(9,some 28,[10,11]),(10,some 29,[11])] [?v2_8,?v2_9,?v2_10] 1 (by kernel_rfl) ⟨_,k.out⟩ ?l2 ?h2;case l2=>
  intro w' hSw;iterate 3
   refine lkw rfl rfl (by rfl) ?_ ?_
   ·go_simp<;>with_reducible rfl
   try simp only[Act.put,tS,t0,t1]
  trivial
 simp only[zw,zk,Act.put,tS,t0,t1];refine w1 11 0 (by kernel_rfl) rfl ?_;replace k:=zj (k.out.add hf (zb _ _ _));clear hf;go_wp2_with((with_reducible refine zx ?_);refine yE k (E:=KC {x with vP:=v1,P:=lP}) (G':=KSl {x with vP:=v1,P:=lP}) rfl rfl rfl hv1 .a2 (by rfl) (by rfl) (zO _) (fun X W h=>{h.1 with P:=h.2}) ?_;clear k;intro W k);refine zd (zJ rfl) ?_;refine zv (by kernel_rfl) ?_ _;clear HPer;replace k:Hid (St _ _ _ [(_,_,_),(_,_,_),(_,KC {x with vP:=v1,P:=lP},_)] _ _ _):=k
 go_upto_region 4 with fail
 have HPer:=Lib.hid k.out.per;refine zt k 25 26 (by kernel_rfl) rfl ?_;clear k;intro W k;refine zq [(0,some 30,[25]),(1,some 31,[25]),(2,some 32,[25]),(3,some 33,[25]),(4,some 34,[25]),(5,some 35,[25]),(7,some 37,[25]),(8,some 38,[25]),(9,some 39,[25]),(10,some 40,[25]),(11,some 41,[25]),(12,some 42,[25]),(14,some 44,[25]),(15,some 45,[25]),(16,some 46,[25]),(17,some 47,[25]),(18,some 48,[25])] [?v3_0,?v3_1,?v3_2,?v3_3,?v3_4,?v3_5,?v3_7,?v3_8,?v3_9,?v3_10,?v3_11,?v3_12,?v3_14,?v3_15,?v3_16,?v3_17,?v3_18] 9 (by kernel_rfl) ⟨_,k.out⟩ ?l3 ?h3;case l3=>
  intro w' hSw;iterate 17
   refine lkw rfl rfl (by rfl) ?_ ?_
   ·first|((with_reducible refine yw ?_);first|exact hSw.l1 rfl rfl (by repeat constructor) (by rfl))|(go_simp<;>with_reducible rfl)
   try simp only[Act.put,tS,t0,t1]
  trivial
 simp only[zw,zk,Act.put,tS,t0,t1];refine w1 6 8 (by kernel_rfl) rfl ?_;go_wp2_with fail;refine(clipEvent_any Atr _ ct _ hct).mono ?_;rintro e W1 ⟨rfl,rfl⟩;go_wp2_with fail;refine zd (yz ⟨_,k.out⟩) ?_;refine w1 13 7 (by kernel_rfl) rfl ?_;go_wp2_with fail;refine(cvalue_any ev v _ h0 h1).mono ?_;rintro e W1 ⟨⟨y,rfl,hy0,hy1⟩,rfl⟩;go_wp2_with fail;refine zd (yz ⟨_,k.out⟩) ?_;refine zq [(19,some 49,[25])] [?v4_19] 6 (by kernel_rfl) ⟨_,k.out⟩ ?l4 ?h4;case l4=>
  intro w' hSw;refine lkw rfl rfl (by rfl) ?_ ?_
  ·go_simp<;>with_reducible rfl
  try simp only[Act.put,tS,t0,t1]
  trivial
 simp only[zw,zk,Act.put,tS,t0,t1];refine w1 20 5 (by kernel_rfl) rfl ?_;go_wp2_with((with_reducible refine qY ?_);refine qp k elEvent rfl rfl rfl rfl rfl (by decide) (by decide) ?_;clear k;intro b X W k);have hkr:=k.out.blk (i:=0) rfl;replace k:=zj (k.out.drop (n:=1));have HE:Hid (Ty kEvent #[.int .i64 a,.int .u32 N,.int .u32 y,.int .u64 x.now]):=⟨ok_pid HR.out,⟨N,rfl,hc.1.1,hc.1.2⟩,⟨y,rfl,hy0,hy1⟩,⟨x.now,rfl,OK.out.now.1,by have:=OK.out.now.2;omega⟩,trivial⟩;refine zd (yz ⟨_,k.out⟩) ?_;refine w1 21 4 (by kernel_rfl) rfl ?_;have hfT:=k.out.fact.Tr;simp only[eTr] at hfT;go_wp2_with((with_reducible refine jZ ?_);refine jv elEvent (by decide) rfl (.tmp 36) (.tmp 50) rfl _ x.Tr [#[.int .i64 a,.int .u32 N,.int .u32 y,.int .u64 x.now]] X (fun _=>False) rfl (sl_cap hfT (Nat.le_refl _) hct) _ rfl (qU hkr rfl (Nat.le_refl 1) (by unfold maxLen;omega)) (by intro r hr;rw[List.mem_singleton.1 hr];exact zm rfl) (by simp) (by have:=OK.out.Tr.len;simp;omega) (by omega) ?_;intro v2 W2 hown2 hb2);have hv2:=xu hown2;have hf:=zV hown2 (xl (fun q hq=>(OK.out.Tr.ty q hq).size) rfl) k.out.lt;replace k:=zj (k.out.call hb2);clear hown2 hb2 hfT hkr;refine zd (yz ⟨_,k.out⟩) ?_;refine zq [(22,some 52,[23,24,25]),(23,some 53,[24,25]),(24,some 54,[25])] [?v5_22,?v5_23,?v5_24] 1 (by kernel_rfl) ⟨_,k.out⟩ ?l5 ?h5;case l5=>
  intro w' hSw;iterate 3
   refine lkw rfl rfl (by rfl) ?_ ?_
   ·go_simp<;>with_reducible rfl
   try simp only[Act.put,tS,t0,t1]
  trivial
 simp only[zw,zk,Act.put,tS,t0,t1];refine w1 25 0 (by kernel_rfl) rfl ?_;replace k:=zj (k.out.add hf (zb _ _ _));clear hf;go_wp2_with((with_reducible refine zx ?_);refine yE k (E:=KC {x with vP:=v1,P:=lP,vTr:=v2,Tr:=x.Tr++ [#[.int .i64 a,.int .u32 N,.int .u32 y,.int .u64 x.now]]}) (G':=KSl {x with vP:=v1,P:=lP,vTr:=v2,Tr:=x.Tr++ [#[.int .i64 a,.int .u32 N,.int .u32 y,.int .u64 x.now]]}) rfl rfl rfl hv2 .a2 (by rfl) (by rfl) (zO _) (fun X W h=>{h.1 with Tr:=h.2}) ?_;clear k;intro W k);refine zd (zJ rfl) ?_;refine zv (by kernel_rfl) ?_ _;clear HPer;go_wp2_with fail;exact bodyPost_ret (results_none rfl _) rfl (k.out.kpost 2 rfl HB.out k.out.fact {OK.out.mono (Nat.le_succ n) (Nat.le_refl _) (Nat.le_refl _) with P:=hPO.mono (Nat.le_succ n),Tr:=OK.out.Tr.add HE.out (OK.out.P.pid1 hin) rfl} ⟨rfl,rfl,rfl,rfl⟩ ⟨rfl,by rw[<-hlP];exact gJ hin1,hLv,rfl,rfl⟩)
theorem stops_any(bk n s m:Nat)(x:Kn)(X0:Nat->Prop)(w:World)(h:KPre bk n s m x X0 w)(r:Array Value)(hr:Ty yu r)(hin:zX r∈xh x.P)(hpar:0<=ym r/\ym r<zX r)(z N A B C:Int)(hz:z=2\/z=3)(hc:qk N A B C):
  Calls Tryz.prog 126 #[.pointer (some ⟨bk,0,none⟩),.agg r,.int .i64 z,.agg #[.int .u32 N,.int .u32 A,.int .u32 B,.int .u32 C]] w (qX bk n s m x X0 w (AnsR x)):=by
 have k:=zj h.begin;obtain⟨Atr,ct,eT,hct,hcm⟩:=h.sl.T.len;have OK:=Lib.hid h.ok;have HB:=Lib.hid h.blk;have hn:=h.hn;have hz0: -9223372036854775808<=z/\z<=9223372036854775807:=by omega
 clear h;have HR:=Lib.hid hr;obtain⟨a,pb,c,c0,c1,c2,c3,c4,c5,c6,c7,c8,mm,d,f0,g0,f1,g1,f2,g2,f3,g3,n0,n1,n2,n3,rfl⟩:=Zd hr;clear hr;go_enter Tryz.func126,Tryz.ntmps126
 go_upto_region 1 with((with_reducible refine zI ?_);refine bxa k rfl ?_;clear k;intro b X W k)
 have HPer:=Lib.hid k.out.per;refine xj k 1 26 rfl rfl 5 6 (by kernel_rfl) rfl ?_;clear k;intro W k;refine zq [(0,some 8,[5]),(1,some 9,[5]),(2,some 10,[5])] [?v6_0,?v6_1,?v6_2] 3 (by kernel_rfl) (.of rfl rfl rfl k.out) ?l6 ?h6;case l6=>
  intro w' hSw;obtain⟨_,_,_,_,_,_,hSw⟩:=hSw;iterate 3
   refine lkw rfl rfl (by rfl) ?_ ?_
   ·first|((with_reducible refine yw ?_);first|exact hSw.la rfl rfl .a0 (by rfl) (by rfl)|exact hSw.lp rfl rfl (by repeat constructor) (D:= #[_,_,_,_]) (by rfl) (by rfl) (by rfl))|(go_simp<;>with_reducible rfl)
   try simp only[Act.put,tS,t0,t1]
  trivial
 simp only[zw,zk,Act.put,tS,t0,t1];refine w1 3 2 (by kernel_rfl) rfl ?_;go_wp2_with((with_reducible refine zx ?_);refine so1 k rfl rfl rfl (by rfl) .a1 (by rfl) rfl ?_;clear k;intro W k);refine zd (yz (.of rfl rfl rfl k.out)) ?_;refine zq [(4,some 11,[5])] [?v7_4] 1 (by kernel_rfl) (.of rfl rfl rfl k.out) ?l7 ?h7;case l7=>
  intro w' hSw;obtain⟨_,_,_,_,_,_,hSw⟩:=hSw;refine lkw rfl rfl (by rfl) ?_ ?_
  ·go_simp<;>with_reducible rfl
  try simp only[Act.put,tS,t0,t1]
  trivial
 simp only[zw,zk,Act.put,tS,t0,t1];refine w1 5 0 (by kernel_rfl) rfl ?_;go_wp2_with((with_reducible refine zx ?_);refine sop k rfl rfl rfl .a1 (by rfl) (by rfl) (zm rfl) rfl ?_;clear k;intro W k);refine zd (zJ rfl) ?_;refine zv (by kernel_rfl) ?_ _;clear HPer;replace k:Hid (St _ _ _ [(_,_,_),(_,#[.int .i64 a,.int .i64 pb,.int .i64 z,.int .u32 c0,.int .u32 c1,.int .u32 c2,.int .u32 c3,.int .u32 c4,.int .u32 c5,.int .u32 c6,.int .u32 c7,.int .u32 c8,.string mm,.int .i64 d,.int .i64 f0,.bool g0,.int .i64 f1,.bool g1,.int .i64 f2,.bool g2,.int .i64 f3,.bool g3,.int .u32 N,.int .u32 A,.int .u32 B,.int .u32 C],_),(_,_,_)] _ _ _):=k
 go_upto_region 2 with fail
 have hT:Ty yu #[.int .i64 a,.int .i64 pb,.int .i64 z,.int .u32 c0,.int .u32 c1,.int .u32 c2,.int .u32 c3,.int .u32 c4,.int .u32 c5,.int .u32 c6,.int .u32 c7,.int .u32 c8,.string mm,.int .i64 d,.int .i64 f0,.bool g0,.int .i64 f1,.bool g1,.int .i64 f2,.bool g2,.int .i64 f3,.bool g3,.int .u32 N,.int .u32 A,.int .u32 B,.int .u32 C]:=(HR.out.set (j:=2) rfl (yY hz0.1 hz0.2)).patch (ok_call hc) 22 rfl (by decide);have hin1:zX #[.int .i64 a,.int .i64 pb,.int .i64 z,.int .u32 c0,.int .u32 c1,.int .u32 c2,.int .u32 c3,.int .u32 c4,.int .u32 c5,.int .u32 c6,.int .u32 c7,.int .u32 c8,.string mm,.int .i64 d,.int .i64 f0,.bool g0,.int .i64 f1,.bool g1,.int .i64 f2,.bool g2,.int .i64 f3,.bool g3,.int .u32 N,.int .u32 A,.int .u32 B,.int .u32 C]∈xh x.P:=hin;have hPO:=OK.out.P.put hT hin hpar;have hLv:=liv_put OK.out.P (r:= #[.int .i64 a,.int .i64 pb,.int .i64 z,.int .u32 c0,.int .u32 c1,.int .u32 c2,.int .u32 c3,.int .u32 c4,.int .u32 c5,.int .u32 c6,.int .u32 c7,.int .u32 c8,.string mm,.int .i64 d,.int .i64 f0,.bool g0,.int .i64 f1,.bool g1,.int .i64 f2,.bool g2,.int .i64 f3,.bool g3,.int .u32 N,.int .u32 A,.int .u32 B,.int .u32 C]) hin (fun _ _ _ _=>by show z≠4;omega);have HT:=Lib.hid hT;clear hT;generalize hlP:jV x.P #[.int .i64 a,.int .i64 pb,.int .i64 z,.int .u32 c0,.int .u32 c1,.int .u32 c2,.int .u32 c3,.int .u32 c4,.int .u32 c5,.int .u32 c6,.int .u32 c7,.int .u32 c8,.string mm,.int .i64 d,.int .i64 f0,.bool g0,.int .i64 f1,.bool g1,.int .i64 f2,.bool g2,.int .i64 f3,.bool g3,.int .u32 N,.int .u32 A,.int .u32 B,.int .u32 C]=lP at hPO hLv;have HPer:=Lib.hid k.out.per;refine zt k 20 25 (by kernel_rfl) rfl ?_;clear k;intro W k;refine zq [(0,some 12,[20])] [?v8_0] 24 (by kernel_rfl) ⟨_,k.out⟩ ?l8 ?h8;case l8=>
  intro w' hSw;refine lkw rfl rfl (by rfl) ?_ ?_
  ·go_simp<;>with_reducible rfl
  try simp only[Act.put,tS,t0,t1]
  trivial
 simp only[zw,zk,Act.put,tS,t0,t1];refine zU [(1,some 13,[])] [?v9_1] 23 (by kernel_rfl) (.inl ⟨_,k.out⟩) ?l9 ?h9;case l9=>
  intro w';refine lkw rfl rfl (by rfl) ?_ ?_
  ·go_simp<;>with_reducible rfl
  try simp only[Act.put,tS,t0,t1]
  trivial
 simp only[zw,zk,Act.put,tS,t0,t1];refine zq [(2,some 14,[20]),(3,some 15,[20]),(4,some 16,[20]),(5,some 17,[20]),(6,some 18,[20]),(7,some 19,[20]),(9,some 21,[10,11,12,13,20]),(10,some 22,[11,12,13,20]),(11,some 23,[12,13,20]),(12,some 24,[13,20]),(13,some 25,[20]),(14,some 26,[15,16,20]),(15,some 27,[16,20])] [?v10_2,?v10_3,?v10_4,?v10_5,?v10_6,?v10_7,?v10_9,?v10_10,?v10_11,?v10_12,?v10_13,?v10_14,?v10_15] 10 (by kernel_rfl) ⟨_,k.out⟩ ?l10 ?h10;case l10=>
  intro w' hSw;iterate 13
   refine lkw rfl rfl (by rfl) ?_ ?_
   ·first|((with_reducible refine yw ?_);first|exact hSw.l1 rfl rfl (by repeat constructor) (by rfl)|exact hSw.la rfl rfl (by repeat constructor) (by rfl) (by rfl)|exact hSw.lp rfl rfl .a2 (D:= #[_,_]) (by rfl) (by rfl) (by rfl))|(go_simp<;>with_reducible rfl)
   try simp only[Act.put,tS,t0,t1]
  trivial
 simp only[zw,zk,Act.put,tS,t0,t1];refine w1 8 9 (by kernel_rfl) rfl ?_;go_wp2_with fail;refine(vj _ x.P _ _ W k.out.fact.P OK.out.P.ty HT.out (by have:=OK.out.P.len;omega)).mono ?_;rw[hlP];rintro e W1 ⟨v1,rfl,hown,hb⟩;have hv1:=xu hown;have hf:=zV hown (fun q hq=>(hPO.ty q hq).size) k.out.lt;replace k:=zj (k.out.call hb);clear hown hb;go_wp2_with fail;refine zd (yz ⟨_,k.out⟩) ?_;refine w1 16 8 (by kernel_rfl) rfl ?_;have hfT:=k.out.fact.T;simp only[eT] at hfT;go_wp2_with fail;refine(tdrop_any _ x.T x.left a _ W1 hfT OK.out.T k.out.lt (by have:=OK.out.Tl;omega) #[.int .i64 1]).mono ?_;rintro e W2 ⟨v2,l2,y,rfl,hl1,hl2,hl3,hb⟩;have hl4:=hl1.one;replace hf:=(zb _ _ _).below hf hb;replace k:=zj (k.out.call hb);clear hb hfT;go_wp2_with fail;refine zd (yz ⟨_,k.out⟩) ?_;refine zq [(17,some 29,[18,19,20]),(18,some 30,[19,20]),(19,some 31,[20])] [?v11_17,?v11_18,?v11_19] 5 (by kernel_rfl) ⟨_,k.out⟩ ?l11 ?h11;case l11=>
  intro w' hSw;iterate 3
   refine lkw rfl rfl (by rfl) ?_ ?_
   ·go_simp<;>with_reducible rfl
   try simp only[Act.put,tS,t0,t1]
  trivial
 simp only[zw,zk,Act.put,tS,t0,t1];refine w1 20 4 (by kernel_rfl) rfl ?_;replace k:=zj ((k.out.add hf (zb _ _ _)).add hl1 (zb _ _ _));clear hf hl1;go_wp2_with((with_reducible refine zx ?_);refine yE k (E:=KC {x with vP:=v1,P:=lP}) (G':=fun X W=>KSl {x with vP:=v1,P:=lP} X W/\Sl 1 v2 l2 X W) rfl rfl rfl hv1 .a2 (by rfl) (by rfl) ((zO _).and (zb _ _ _)) (fun X W h=>⟨{h.1.1 with P:=h.1.2},h.2⟩) ?_;clear k;intro W k);refine zd (zJ rfl) ?_;refine zU [(21,some 32,[]),(22,some 33,[]),(23,some 34,[])] [?v12_21,?v12_22,?v12_23] 1 (by kernel_rfl) (.inr (by kernel_rfl)) ?l12 ?h12;case l12=>
  intro w';iterate 3
   refine lkw rfl rfl (by rfl) ?_ ?_
   ·go_simp<;>with_reducible rfl
   try simp only[Act.put,tS,t0,t1]
  trivial
 simp only[zw,zk,Act.put,tS,t0,t1];refine w1 24 0 (by kernel_rfl) rfl ?_;go_wp2_with((with_reducible refine zx ?_);refine sopt k (E:=KC {x with vP:=v1,P:=lP,vT:=v2,T:=l2,left:=y}) (G':=KSl {x with vP:=v1,P:=lP,vT:=v2,T:=l2,left:=y}) rfl rfl rfl .a2 (by rfl) (by rfl) (yU hl4 rfl) (by rfl) (zO _) (fun X W h=>{h.1 with T:=h.2}) ?_;clear k;intro W k);refine zd (qb (by kernel_rfl)) ?_;refine zv (by kernel_rfl) ?_ _;clear HPer;go_wp2_with fail;exact bodyPost_ret (results_none rfl _) rfl (k.out.kpost 2 rfl HB.out k.out.fact {OK.out with P:=hPO,T:=(fun q hq=>(hl2 q hq).elim (OK.out.T q) (fun e=>e▸⟨1,rfl,by decide⟩)),Tl:=Nat.le_trans hl3 OK.out.Tl} ⟨rfl,rfl,rfl,rfl⟩ ⟨rfl,by rw[<-hlP];exact gJ hin1,hLv,rfl,rfl⟩)
theorem elByte:ElT 5 201 1 1:=jI Tryz.underlying201 (by kernel_rfl)
def Zw(x:Kn)(p:Int)(e:Ending)(x':Kn):Prop:=
 ∃v y:Int,e= .returned (.tuple #[.int .u32 v,.int .i64 y])/\0<=v/\v<4294967296/\Liv x.P x'.P/\p∈xh x'.P/\x'.gone=x.gone/\x'.want=x.want
theorem xv{bk n s m:Nat}{x:Kn}{X0 X:Nat->Prop}{w W:World}{bs:List (Nat×Array Value×TypeId)}{G:(Nat->Prop)->World->Prop}(k:St (fun k=>k=bk) X0 w bs G X W)(i:Nat)(hi:bs[i]? =some (bk,KC x,116))(hw:Blk w bk (KC x) 116)(hs:KSl x X W)(hok:KOk n s m x)
  {p:Int} (hr:p∈xh x.P) {v y:Int} (h0:0<=v) (h1:v<4294967296):qX bk (n+1) s (m+1) x X0 w (Zw x p) (.returned (.tuple #[.int .u32 v,.int .i64 y])) W:=
 k.kpost i hi hw hs (hok.mono (Nat.le_succ n) (Nat.le_refl _) (Nat.le_succ m)) (KRel.refl x) ⟨v,y,rfl,h0,h1,Liv.refl _,hr,rfl,rfl⟩
theorem wrap_u8(z:Int): ∃u:UInt8,(u.toNat:Int)=IntKind.u8.wrap z:=by
 refine⟨UInt8.ofNat (z% 256).toNat,?_⟩;rw[UInt8.toNat_ofNat'];simp only[IntKind.wrap,IntKind.bits,IntKind.signed];simp;omega
theorem tpid_any(bk n s m:Nat)(x:Kn)(X0:Nat->Prop)(w:World)(h:KPre bk n s m x X0 w)(r:Array Value)(hr:r∈x.P)(N A B C:Int)(hc:qk N A B C):
  Calls Tryz.prog 143 #[.pointer (some ⟨bk,0,none⟩),.agg r,.agg #[.int .u32 N,.int .u32 A,.int .u32 B,.int .u32 C]] w (qX bk (n+1) s (m+1) x X0 w (Zw x (zX r))):=by
 have k:=zj h.begin;have OK:=Lib.hid h.ok;have HB:=Lib.hid h.blk;have hn:=h.hn;have hm:=h.hm;have HR:Hid (Ty yu r):=h.ok.P.ty r hr;have HM:=Lib.hid hr;have HI:=Lib.hid (xk hr);have HPar:=Lib.hid (h.ok.P.par r hr);have hs:=h.hs;clear h;obtain⟨a,pb,c,c0,c1,c2,c3,c4,c5,c6,c7,c8,mm,d,f0,g0,f1,g1,f2,g2,f3,g3,n0,n1,n2,n3,rfl⟩:=Zd HR.out;clear hr;go_enter Tryz.func143,Tryz.ntmps143;go_wp2_with(first|((with_reducible refine zz ?_);refine ld1 k rfl rfl .a1 (by rfl) ?_)|((with_reducible refine zI ?_);refine bxa k rfl ?_;clear k;intro b X W k))
 go_ret2
 exact xv k.out 2 rfl HB.out k.out.fact OK.out HI.out (by omega) (by omega)
theorem ttime_any(bk n s m:Nat)(x:Kn)(X0:Nat->Prop)(w:World)(h:KPre bk n s m x X0 w)(r:Array Value)(hr:r∈x.P)(N A B C:Int)(hc:qk N A B C):
  Calls Tryz.prog 144 #[.pointer (some ⟨bk,0,none⟩),.agg r,.agg #[.int .u32 N,.int .u32 A,.int .u32 B,.int .u32 C]] w (qX bk (n+1) s (m+1) x X0 w (Zw x (zX r))):=by
 have k:=zj h.begin;have OK:=Lib.hid h.ok;have HB:=Lib.hid h.blk;have hn:=h.hn;have hm:=h.hm;have HR:Hid (Ty yu r):=h.ok.P.ty r hr;have HM:=Lib.hid hr;have HI:=Lib.hid (xk hr);have HPar:=Lib.hid (h.ok.P.par r hr);have hs:=h.hs;clear h;obtain⟨a,pb,c,c0,c1,c2,c3,c4,c5,c6,c7,c8,mm,d,f0,g0,f1,g1,f2,g2,f3,g3,n0,n1,n2,n3,rfl⟩:=Zd HR.out;clear hr;go_enter Tryz.func144,Tryz.ntmps144;go_wp2_with(first|((with_reducible refine zz ?_);refine ld1 k rfl rfl .a2 (by rfl) ?_)|((with_reducible refine zI ?_);refine bxa k rfl ?_;clear k;intro b X W k))
 go_ret2
 exact xv k.out 2 rfl HB.out k.out.fact OK.out HI.out (by omega) (by omega)
theorem tput_any(bk n s m:Nat)(x:Kn)(X0:Nat->Prop)(w:World)(h:KPre bk n s m x X0 w)(r:Array Value)(hr:r∈x.P)(N A B C:Int)(hc:qk N A B C):
  Calls Tryz.prog 145 #[.pointer (some ⟨bk,0,none⟩),.agg r,.agg #[.int .u32 N,.int .u32 A,.int .u32 B,.int .u32 C]] w (qX bk (n+1) s (m+1) x X0 w (Zw x (zX r))):=by
 have k:=zj h.begin;have OK:=Lib.hid h.ok;have HB:=Lib.hid h.blk;have hn:=h.hn;have hm:=h.hm;have HR:Hid (Ty yu r):=h.ok.P.ty r hr;have HM:=Lib.hid hr;have HI:=Lib.hid (xk hr);have HPar:=Lib.hid (h.ok.P.par r hr);have hs:=h.hs;clear h;obtain⟨a,pb,c,c0,c1,c2,c3,c4,c5,c6,c7,c8,mm,d,f0,g0,f1,g1,f2,g2,f3,g3,n0,n1,n2,n3,rfl⟩:=Zd HR.out;clear hr;have hA:=hc.2.1;have hcs:(9223372036854775807<x.cons.size+1)=False:=by rw[eq_iff_iff,iff_false];have:=OK.out.cons;omega
 go_enter Tryz.func145,Tryz.ntmps145
 go_upto_region 1 with((with_reducible refine zI ?_);refine bxa k rfl ?_;clear k;intro b X W k)
 have HPer:=Lib.hid k.out.per;refine zt k 14 15 (by kernel_rfl) rfl ?_;clear k;intro W k;refine zq [(0,some 8,[14]),(1,some 9,[14]),(2,some 10,[14]),(3,some 11,[14]),(4,some 12,[14]),(5,some 13,[14]),(6,some 14,[14]),(7,some 15,[14])] [?v13_0,?v13_1,?v13_2,?v13_3,?v13_4,?v13_5,?v13_6,?v13_7] 7 (by kernel_rfl) ⟨_,k.out⟩ ?l13 ?h13;case l13=>
  intro w' hSw;iterate 8
   refine lkw rfl rfl (by rfl) ?_ ?_
   ·first|((with_reducible refine yw ?_);first|exact hSw.l1 rfl rfl (by repeat constructor) (by rfl))|(go_simp<;>with_reducible rfl)
   try simp only[Act.put,tS,t0,t1]
  trivial
 simp only[zw,zk,Act.put,tS,t0,t1];refine w1 8 6 (by kernel_rfl) rfl ?_;go_wp2_with((with_reducible refine qY ?_);refine qp k elByte rfl rfl rfl rfl rfl (by decide) (by decide) ?_;clear k;intro b X W k);have hcl:W.cell? ⟨b,0,none⟩=some (.int .u8 (IntKind.u8.wrap A)):=(k.out.rules (i:=0) rfl).1 0;replace k:=zj (k.out.drop (n:=1));obtain⟨u,hu⟩:=wrap_u8 A;refine zd (yz ⟨_,k.out⟩) ?_;refine w1 9 5 (by kernel_rfl) rfl ?_;have hst:=run_convert_bytes_back (P:=Tryz.prog) W 201 9 5 ⟨b,0,none⟩ 1 [u] Tryz.underlying201 Tryz.underlying5 Tryz.underlying9 (fun j hj=>by
  obtain rfl:j=0:=by simp at hj;exact hj
  rw[show(⟨b,0,none⟩:Addr).add 0=⟨b,0,none⟩ from rfl,hcl,<-hu];rfl)
 simp only[List.length_cons,List.length_nil,Nat.zero_add] at hst;go_wp2_with fail;refine zd (yz ⟨_,k.out⟩) ?_;refine zq [(10,some 18,[14]),(11,some 19,[12,13,14]),(12,some 20,[13,14]),(13,some 21,[14])] [?v14_10,?v14_11,?v14_12,?v14_13] 1 (by kernel_rfl) ⟨_,k.out⟩ ?l14 ?h14;case l14=>
  intro w' hSw;iterate 4
   refine lkw rfl rfl (by rfl) ?_ ?_
   ·go_simp<;>with_reducible rfl
   try simp only[Act.put,tS,t0,t1]
  trivial
 simp only[zw,zk,Act.put,tS,t0,t1];refine w1 14 0 (by kernel_rfl) rfl ?_;go_wp2_with((with_reducible refine zx ?_);refine yE k (E:=KC {x with cons:=x.cons++⟨#[u]⟩}) (G':=KSl {x with cons:=x.cons++⟨#[u]⟩}) rfl rfl rfl rfl .a2 (by rfl) (by rfl) (zO _) (fun X W h=>{h with}) ?_;clear k;intro W k);refine zd (zJ rfl) ?_;refine zv (by kernel_rfl) ?_ _;clear HPer;go_wp2_with fail
 go_ret2
 exact k.out.kpost 2 rfl HB.out k.out.fact {OK.out.mono (Nat.le_succ n) (Nat.le_refl _) (Nat.le_succ m) with cons:=by have h1:=OK.out.cons;show(x.cons++(⟨#[u]⟩:ByteArray)).size<=n+1;rw[ByteArray.size_append];have h2:(⟨#[u]⟩:ByteArray).size=1:=rfl;omega} ⟨rfl,rfl,rfl,rfl⟩ ⟨0,0,rfl,by decide,by decide,Liv.refl _,HI.out,rfl,rfl⟩
def EndR(x:Kn)(r:Array Value)(A:Int)(w:World)(e:Ending)(w':World):Prop:=
 ∃(d:Int) (g b:Bool),e= .returned (.tuple #[.agg #[.int .i64 d,.bool g],.bool b])/\ -9223372036854775808<=d/\d<=9223372036854775807/\(b=true->0<=A/\A<4/\1<=d/\d<=x.Pi.length)/\Below w.heap.size w w'
theorem St.ksame{b:Nat}{C:Array Value}{T:TypeId}{X0 X:Nat->Prop}{w0 W:World}{bs:List (Nat×Array Value×TypeId)}{G:(Nat->Prop)->World->Prop}(k:St (fun k=>k=b) X0 w0 bs G X W)(i:Nat)(hi:bs[i]? =some (b,C,T))(hw:Blk w0 b C T):Below w0.heap.size w0 W:=
 ⟨k.only.os,k.only.tape,k.only.output,k.only.size,fun j hj=>by
  by_cases e:j=b
  ·subst e
   have h1:W.heap[j]? =_:=k.blk hi;have h2:w0.heap[j]? =_:=hw;rw[h1,h2]
  ·exact k.only.block j hj e⟩
theorem fds_at{r:Array Value}(h:Ty yu r){i:Nat}(hi:i<4): ∃(d:Int) (g:Bool),r.toList[14+i*2]? =some (.int .i64 d)/\r.toList[14+i*2+1]? =some (.bool g)/\ -9223372036854775808<=d/\d<=9223372036854775807/\(r.toList.drop (14+i*2)).take 2=(#[.int .i64 d,.bool g]:Array Value).toList/\Nat.ble (14+i*2+2) r.size=true:=by
 have h1: ∃d:Int,r[14+i*2]? =some (.int .i64 d)/\ -9223372036854775808<=d/\d<=9223372036854775807:=h.i64 _ (by
  rcases i with _|_|_|_|i
  all_goals first|rfl|omega)
 have h2: ∃g:Bool,r[14+i*2+1]? =some (.bool g):=h.bool _ (by
  rcases i with _|_|_|_|i
  all_goals first|rfl|omega)
 obtain⟨d,hd,h3⟩:=h1;obtain⟨g,hg⟩:=h2;have hs:=h.size;have hs2:r.size=26:=hs;refine⟨d,g,by rw[Array.getElem?_toList];exact hd,by rw[Array.getElem?_toList];exact hg,h3.1,h3.2,?_,by rw[Nat.ble_eq];omega⟩;apply List.ext_getElem?;intro j;rw[List.getElem?_take];split
 ·rename_i hj
  rw[List.getElem?_drop,Array.getElem?_toList];rcases j with _|_|j
  ·rw[Nat.add_zero,hd];rfl
  ·rw[hg];rfl
  ·omega
 ·rename_i hj
  simp at hj;rw[List.getElem?_eq_none];simp;omega
theorem end_any(bk n s m:Nat)(x:Kn)(X0:Nat->Prop)(w:World)(h:KPre bk n s m x X0 w)(r:Array Value)(hr:Ty yu r)(A:Int)(hA:0<=A/\A<4294967296):
  Calls Tryz.prog 179 #[.pointer (some ⟨bk,0,none⟩),.agg r,.int .u32 A] w (EndR x r A w):=by
 have k:=zj h.begin;have HB:=Lib.hid h.blk;have HR:=Lib.hid hr;obtain⟨Ap,cp,eP,hcp,_⟩:=h.sl.Pi.len;clear h;by_cases h4:4<=A
 ·obtain⟨a,pb,c,c0,c1,c2,c3,c4,c5,c6,c7,c8,mm,d,f0,g0,f1,g1,f2,g2,f3,g3,n0,n1,n2,n3,rfl⟩:=Zd hr
  clear hr;go_enter Tryz.func179,Tryz.ntmps179
  go_upto_region 1 with(first|((with_reducible refine zI ?_);refine bxa k rfl ?_;clear k;intro b X W k)|((with_reducible refine zf ?_);refine ala k Tryz.zeroValue127 ?_;clear k;intro b127 X W k))
  have HPer:=Lib.hid k.out.per;refine zt k 24 24 (by kernel_rfl) rfl ?_;clear k;intro W k;refine zq [(0,some 8,[]),(1,some 9,[]),(2,some 10,[]),(3,some 11,[]),(4,some 12,[]),(5,some 13,[]),(6,some 14,[]),(7,some 15,[]),(8,some 16,[]),(9,some 17,[]),(10,some 18,[]),(11,some 19,[]),(12,some 20,[]),(13,some 21,[]),(14,some 22,[]),(15,some 23,[]),(16,some 24,[]),(17,some 25,[]),(18,some 26,[]),(19,some 27,[]),(20,some 28,[]),(21,some 29,[]),(22,some 30,[]),(23,some 31,[])] [?v13_0,?v13_1,?v13_2,undef,undef,undef,undef,undef,undef,?v13_9,?v13_10,undef,undef,undef,undef,undef,undef,undef,undef,undef,undef,undef,undef,?v13_23] 0 (by kernel_rfl) ⟨_,k.out⟩ ?l13 ?h13;case l13=>
   intro w' hSw;iterate 3
    refine lkw rfl rfl (by rfl) ?_ ?_
    ·go_simp<;>with_reducible rfl
    try simp only[Act.put,tS,t0,t1]
   iterate 6
    refine lks rfl rfl (by rfl) ?_;try simp only[Act.put,tS,t0,t1]
   iterate 2
    refine lkw rfl rfl (by rfl) ?_ ?_
    ·go_simp<;>with_reducible rfl
    try simp only[Act.put,tS,t0,t1]
   iterate 12
    refine lks rfl rfl (by rfl) ?_;try simp only[Act.put,tS,t0,t1]
   refine lkw rfl rfl (by rfl) ?_ ?_
   ·go_simp<;>with_reducible rfl
   try simp only[Act.put,tS,t0,t1]
   trivial
  simp only[zw,zk,Act.put,tS,t0,t1];refine zv (by kernel_rfl) ?_ _;clear HPer;go_wp2_with((with_reducible refine zx ?_);refine soa k rfl rfl rfl .a0 (by rfl) (by rfl) (zm rfl) ?_;clear k;intro W k);exact bodyPost_ret (yh rfl _ rfl rfl (zY k.out 0 rfl 127 (Tryz.isAgg127 _) (Tryz.sizeOf127 _) rfl)) rfl ⟨0,false,false,rfl,by decide,by decide,(fun h=>by cases h),k.out.ksame 2 rfl HB.out⟩
 ·obtain⟨i,rfl,hi⟩: ∃i:Nat,A=(i:Int)/\i<4:=⟨A.toNat,by omega,by omega⟩
  have hi4:(i:Int)<4:=by omega
  obtain⟨d0,g0,e1,e2,hd0,hd1,e3,e4⟩:=fds_at hr hi;by_cases hlt:d0<1
  ·have ew:=HR.out.size
   go_enter Tryz.func179,Tryz.ntmps179
   go_upto_region 1 with(first|((with_reducible refine zI ?_);refine bxa k rfl ?_;clear k;intro b X W k)|((with_reducible refine zf ?_);refine ala k Tryz.zeroValue127 ?_;clear k;intro b127 X W k))
   have HPer:=Lib.hid k.out.per;refine zt k 24 24 (by kernel_rfl) rfl ?_;clear k;intro W k;refine zq [(0,some 8,[]),(1,some 9,[]),(2,some 10,[]),(3,some 11,[]),(4,some 12,[]),(5,some 13,[]),(6,some 14,[]),(7,some 15,[]),(8,some 16,[]),(9,some 17,[]),(10,some 18,[]),(11,some 19,[]),(12,some 20,[]),(13,some 21,[]),(14,some 22,[]),(15,some 23,[]),(16,some 24,[]),(17,some 25,[]),(18,some 26,[]),(19,some 27,[]),(20,some 28,[]),(21,some 29,[]),(22,some 30,[]),(23,some 31,[])] [?v14_0,?v14_1,?v14_2,?v14_3,?v14_4,?v14_5,?v14_6,?v14_7,?v14_8,?v14_9,?v14_10,undef,undef,undef,undef,undef,undef,undef,undef,undef,undef,undef,undef,?v14_23] 0 (by kernel_rfl) ⟨_,k.out⟩ ?l14 ?h14;case l14=>
    intro w' hSw;iterate 11
     refine lkw rfl rfl (by rfl) ?_ ?_
     ·first|((with_reducible refine yw ?_);first|exact hSw.l1 rfl rfl .a1 (by assumption))|(go_simp<;>with_reducible rfl)
     try simp only[Act.put,tS,t0,t1]
    iterate 12
     refine lks rfl rfl (by rfl) ?_;try simp only[Act.put,tS,t0,t1]
    refine lkw rfl rfl (by rfl) ?_ ?_
    ·go_simp<;>with_reducible rfl
    try simp only[Act.put,tS,t0,t1]
    trivial
   simp only[zw,zk,Act.put,tS,t0,t1];refine zv (by kernel_rfl) ?_ _;clear HPer;go_wp2_with((with_reducible refine zx ?_);refine soa k rfl rfl rfl .a0 (by rfl) (by rfl) (zm rfl) ?_;clear k;intro W k);exact bodyPost_ret (yh rfl _ rfl rfl (zY k.out 0 rfl 127 (Tryz.isAgg127 _) (Tryz.sizeOf127 _) rfl)) rfl ⟨0,false,false,rfl,by decide,by decide,(fun h=>by cases h),k.out.ksame 2 rfl HB.out⟩
  ·by_cases hgt:(x.Pi.length:Int)<d0
   ·go_enter Tryz.func179,Tryz.ntmps179
    go_upto_region 1 with(first|((with_reducible refine zI ?_);refine bxa k rfl ?_;clear k;intro b X W k)|((with_reducible refine zf ?_);refine ala k Tryz.zeroValue127 ?_;clear k;intro b127 X W k))
    have HPer:=Lib.hid k.out.per;refine zt k 24 24 (by kernel_rfl) rfl ?_;clear k;intro W k;refine zq [(0,some 8,[]),(1,some 9,[]),(2,some 10,[]),(3,some 11,[]),(4,some 12,[]),(5,some 13,[]),(6,some 14,[]),(7,some 15,[]),(8,some 16,[]),(9,some 17,[]),(10,some 18,[]),(11,some 19,[]),(12,some 20,[]),(13,some 21,[]),(14,some 22,[]),(15,some 23,[]),(16,some 24,[]),(17,some 25,[]),(18,some 26,[]),(19,some 27,[]),(20,some 28,[]),(21,some 29,[]),(22,some 30,[]),(23,some 31,[])] [?v15_0,?v15_1,?v15_2,?v15_3,?v15_4,?v15_5,?v15_6,?v15_7,?v15_8,?v15_9,?v15_10,?v15_11,?v15_12,?v15_13,?v15_14,?v15_15,?v15_16,?v15_17,?v15_18,?v15_19,?v15_20,?v15_21,?v15_22,?v15_23] 0 (by kernel_rfl) ⟨_,k.out⟩ ?l15 ?h15;case l15=>
     intro w' hSw;iterate 24
      refine lkw rfl rfl (by rfl) ?_ ?_
      ·first|((with_reducible refine yw ?_);first|exact hSw.l1 rfl rfl (by repeat constructor) (by first|rfl|assumption))|(go_simp<;>with_reducible rfl)
      try simp only[Act.put,tS,t0,t1]
     trivial
    simp only[zw,zk,Act.put,tS,t0,t1];refine zv (by kernel_rfl) ?_ _;clear HPer;go_wp2_with((with_reducible refine zx ?_);refine soa k rfl rfl rfl .a0 (by rfl) (by rfl) (zm rfl) ?_;clear k;intro W k);exact bodyPost_ret (yh rfl _ rfl rfl (zY k.out 0 rfl 127 (Tryz.isAgg127 _) (Tryz.sizeOf127 _) rfl)) rfl ⟨0,false,false,rfl,by decide,by decide,(fun h=>by cases h),k.out.ksame 2 rfl HB.out⟩
   ·go_enter Tryz.func179,Tryz.ntmps179
    go_upto_region 1 with(first|((with_reducible refine zI ?_);refine bxa k rfl ?_;clear k;intro b X W k)|((with_reducible refine zf ?_);refine ala k Tryz.zeroValue127 ?_;clear k;intro b127 X W k))
    have HPer:=Lib.hid k.out.per;refine zt k 24 24 (by kernel_rfl) rfl ?_;clear k;intro W k;refine zq [(0,some 8,[]),(1,some 9,[]),(2,some 10,[]),(3,some 11,[]),(4,some 12,[]),(5,some 13,[]),(6,some 14,[]),(7,some 15,[]),(8,some 16,[]),(9,some 17,[]),(10,some 18,[]),(11,some 19,[]),(12,some 20,[]),(13,some 21,[]),(14,some 22,[]),(15,some 23,[]),(16,some 24,[]),(17,some 25,[]),(18,some 26,[]),(19,some 27,[]),(20,some 28,[]),(21,some 29,[]),(22,some 30,[]),(23,some 31,[])] [?v16_0,?v16_1,?v16_2,?v16_3,?v16_4,?v16_5,?v16_6,?v16_7,?v16_8,?v16_9,?v16_10,?v16_11,?v16_12,?v16_13,?v16_14,?v16_15,?v16_16,?v16_17,?v16_18,?v16_19,?v16_20,?v16_21,?v16_22,?v16_23] 0 (by kernel_rfl) ⟨_,k.out⟩ ?l16 ?h16;case l16=>
     intro w' hSw;iterate 24
      refine lkw rfl rfl (by rfl) ?_ ?_
      ·first|((with_reducible refine yw ?_);first|exact hSw.l1 rfl rfl (by repeat constructor) (by first|rfl|assumption))|(go_simp<;>with_reducible rfl)
      try simp only[Act.put,tS,t0,t1]
     trivial
    simp only[zw,zk,Act.put,tS,t0,t1];refine zv (by kernel_rfl) ?_ _;clear HPer;go_wp2_with(first|((with_reducible refine zz ?_);refine ldp k rfl rfl .a1 (D:= #[.int .i64 d0,.bool g0]) e3 e4 ?_)|((with_reducible refine zx ?_);refine soa k rfl rfl rfl .a0 (by rfl) (by rfl) (zm rfl) ?_;clear k;intro W k));exact bodyPost_ret (yh rfl _ rfl rfl (zY k.out 0 rfl 127 (Tryz.isAgg127 _) (Tryz.sizeOf127 _) rfl)) rfl ⟨d0,g0,true,rfl,hd0,hd1,(fun _=>⟨by omega,by omega,by omega,by omega⟩),k.out.ksame 2 rfl HB.out⟩
theorem fds_set{r:Array Value}(h:Ty yu r){i:Nat}(hi:i<4){d:Int}{g:Bool}(h0: -9223372036854775808<=d)(h1:d<=9223372036854775807):
  Ty yu (patch r (14+i*2) #[.int .i64 d,.bool g])/\zX (patch r (14+i*2) #[.int .i64 d,.bool g])=zX r/\ym (patch r (14+i*2) #[.int .i64 d,.bool g])=ym r/\qV (patch r (14+i*2) #[.int .i64 d,.bool g])=qV r:=by
 have hs:r.size=26:=h.size;have he:Ty kEnd #[.int .i64 d,.bool g]:=⟨yY h0 h1,ok_bool g,trivial⟩;have hl: ∀j,j<14->zQ (patch r (14+i*2) #[.int .i64 d,.bool g]) j=zQ r j:=fun j hj=>by
  unfold zQ;rw[jw r _ _ j (by omega) (by omega)]
 refine⟨h.patch he _ ?_ ?_,hl 0 (by omega),hl 1 (by omega),hl 2 (by omega)⟩
 ·rcases i with _|_|_|_|i
  all_goals first|rfl|omega
 ·show 14+i*2+2<=26
  omega
theorem liv_same{n:Nat}{P:List (Array Value)}(h:POk n P){r r':Array Value}(hr:r∈P)(hp:zX r'=zX r)(hst:qV r≠4->qV r'≠4):Liv P (jV P r'):=
 liv_put h (by rw[hp];exact xk hr) (fun q hq he hs=>by
  have:=h.one hq hr (he.trans hp);subst this;exact hst hs)
theorem POk.again{n:Nat}{P:List (Array Value)}(h:POk n P){r r':Array Value}(hr:r∈P)(ht:Ty yu r')(hp:zX r'=zX r)(hq:ym r'=ym r)(hst:qV r'=qV r):POk n (jV P r')/\Liv P (jV P r')/\zX r∈xh (jV P r'):=by
 have hin:zX r'∈xh P:=by rw[hp];exact xk hr
 exact⟨h.put ht hin (by rw[hp,hq];exact h.par r hr),liv_same h hr hp (by rw[hst];exact id),by rw[gJ hin];exact xk hr⟩
theorem tcloses_any(bk n s m:Nat)(x:Kn)(X0:Nat->Prop)(w:World)(h:KPre bk n s m x X0 w)(r:Array Value)(hr:r∈x.P)(N A B C:Int)(hc:qk N A B C):
  Calls Tryz.prog 149 #[.pointer (some ⟨bk,0,none⟩),.agg r,.agg #[.int .u32 N,.int .u32 A,.int .u32 B,.int .u32 C]] w (qX bk (n+1) s (m+1) x X0 w (Zw x (zX r))):=by
 have k:=zj h.begin;have OK:=Lib.hid h.ok;have HB:=Lib.hid h.blk;have hn:=h.hn;have hm:=h.hm;have HR:Hid (Ty yu r):=h.ok.P.ty r hr;have HM:=Lib.hid hr;have HI:=Lib.hid (xk hr);have HPar:=Lib.hid (h.ok.P.par r hr);have hs:=h.hs;have hrs:r.size=26:=HR.out.size;have hro:=HR.out.one;clear hr h;go_enter Tryz.func149,Tryz.ntmps149;go_wp2_with(first|((with_reducible refine zz ?_);first|(refine ld1 k rfl rfl (by repeat constructor) (by rfl) ?_)|(refine lda k rfl rfl .a1 (by assumption) ?_))|((with_reducible refine zI ?_);refine bxa k rfl ?_;clear k;intro b X W k));refine(end_any bk n s m x _ _ ⟨k.out.blk (i:=2) rfl,(k.out.box (i:=2) rfl).1,k.out.lt,k.out.fact,OK.out,(by omega),(by omega),(by omega)⟩ r HR.out A hc.2.1).mono ?_;rintro e W1 ⟨d0,g0,b0,rfl,hd0,hd1,hd2,hb⟩;replace k:=zj (k.out.call hb);clear hb;cases b0 with
 |false=>
  go_wp2_with(first|((with_reducible refine zx ?_);refine soa k rfl rfl rfl .a0 (by rfl) (by rfl) (zm rfl) ?_;clear k;intro W k)|((with_reducible refine zf ?_);refine ala k Tryz.zeroValue127 ?_;clear k;intro b127 X W k))
  go_ret2
  exact xv k.out 3 rfl HB.out k.out.fact OK.out HI.out (by omega) (by omega)
 |true=>
  obtain⟨h0,h4,h5,h6⟩:=hd2 rfl;obtain⟨i,rfl,hi⟩: ∃i:Nat,A=(i:Int)/\i<4:=⟨A.toNat,by omega,by omega⟩;clear h0 hd2;obtain⟨hT,hpi,hpa,hst⟩:=fds_set HR.out hi (d:=0) (g:=false) (by decide) (by decide);have hfit:14+i*2+2<=r.size:=by omega
  go_upto_region 5 with(first|((with_reducible refine zz ?_);refine ld1 k rfl rfl .a1 (by rfl) ?_)|((with_reducible refine zx ?_);first|(refine xm k 2 rfl (T:=127) rfl rfl rfl rfl (Tryz.sizeOf127 _) rfl hfit (zm rfl) ?_;clear k;intro W k)|(refine soa k rfl rfl rfl .a0 (by rfl) (by rfl) (zm rfl) ?_;clear k;intro W k))|((with_reducible refine zf ?_);refine ala k Tryz.zeroValue127 ?_;clear k;intro b127 X W k))
  have hag:=OK.out.P.again HM.out hT hpi hpa hst;replace k:Hid (St _ _ _ [(_,_,_),(_,_,_),(_,patch r (14+i*2) #[.int .i64 0,.bool false],_),(_,_,_)] _ _ _):=k;generalize patch r (14+i*2) #[.int .i64 0,.bool false]=r' at k hT hag;have hrs':r'.size=26:=hT.size;obtain⟨hPO,hLv,hIn⟩:=hag;have HT:=Lib.hid hT;have HIn:=Lib.hid hIn;clear hT hIn;generalize hlP:jV x.P r'=lP at hPO hLv HIn;have HPer:=Lib.hid k.out.per;refine zt k 19 24 (by kernel_rfl) rfl ?_;clear k;intro W k;refine zq [(0,some 25,[19])] [?v13_0] 23 (by kernel_rfl) ⟨_,k.out⟩ ?l13 ?h13;case l13=>
   intro w' hSw;refine lkw rfl rfl (by rfl) ?_ ?_
   ·go_simp<;>with_reducible rfl
   try simp only[Act.put,tS,t0,t1]
   trivial
  simp only[zw,zk,Act.put,tS,t0,t1];refine zU [(1,some 26,[])] [?v14_1] 22 (by kernel_rfl) (.inl ⟨_,k.out⟩) ?l14 ?h14;case l14=>
   intro w';refine lkw rfl rfl (by rfl) ?_ ?_
   ·go_simp<;>with_reducible rfl
   try simp only[Act.put,tS,t0,t1]
   trivial
  simp only[zw,zk,Act.put,tS,t0,t1];refine zq [(2,some 27,[19]),(3,some 28,[19]),(4,some 29,[19]),(5,some 30,[19]),(6,some 31,[19]),(7,some 32,[19]),(9,some 34,[10,11,12,13,19]),(10,some 35,[11,12,13,19]),(11,some 36,[12,13,19]),(12,some 37,[13,19]),(13,some 38,[19]),(14,some 39,[15,19])] [?v15_2,?v15_3,?v15_4,?v15_5,?v15_6,?v15_7,?v15_9,?v15_10,?v15_11,?v15_12,?v15_13,?v15_14] 10 (by kernel_rfl) ⟨_,k.out⟩ ?l15 ?h15;case l15=>
   intro w' hSw;iterate 12
    refine lkw rfl rfl (by rfl) ?_ ?_
    ·first|((with_reducible refine yw ?_);first|exact hSw.l1 rfl rfl (by repeat constructor) (by rfl)|exact hSw.la rfl rfl (by repeat constructor) (by first|rfl|assumption) (by rfl)|exact hSw.lp rfl rfl (by repeat constructor) (D:= #[_,_]) (by rfl) (by rfl) (by rfl))|(go_simp<;>with_reducible rfl)
    try simp only[Act.put,tS,t0,t1]
   trivial
  simp only[zw,zk,Act.put,tS,t0,t1];refine w1 8 9 (by kernel_rfl) rfl ?_;go_wp2_with fail;refine(qf _ x.Pi d0 g0 (-1) _ W k.out.fact.Pi OK.out.Pi (by have:=OK.out.Pil;omega) k.out.lt).mono ?_;rintro e W1 ⟨v2,l2,rfl,hl1,hl2,hl3,hb⟩;have hv2:=hl1.one;replace k:=zj (k.out.call hb);clear hb;go_wp2_with fail;refine zd (yz ⟨_,k.out⟩) ?_;refine w1 15 8 (by kernel_rfl) rfl ?_;go_wp2_with fail;refine(vj _ x.P r' _ _ k.out.fact.P OK.out.P.ty HT.out (by have:=OK.out.P.len;omega)).mono ?_;rw[hlP];rintro e W1 ⟨v1,rfl,hown,hb⟩;have hv1:=xu hown;have hf:=zV hown (fun q hq=>(hPO.ty q hq).size) k.out.lt;replace k:=zj (k.out.call hb);replace hl1:=(zb _ _ _).below hl1 hb;clear hown hb;go_wp2_with fail;refine zd (yz ⟨_,k.out⟩) ?_;refine zq [(16,some 41,[17,18,19]),(17,some 42,[18,19]),(18,some 43,[19])] [?v16_16,?v16_17,?v16_18] 5 (by kernel_rfl) ⟨_,k.out⟩ ?l16 ?h16;case l16=>
   intro w' hSw;iterate 3
    refine lkw rfl rfl (by rfl) ?_ ?_
    ·go_simp<;>with_reducible rfl
    try simp only[Act.put,tS,t0,t1]
   trivial
  simp only[zw,zk,Act.put,tS,t0,t1];refine w1 19 4 (by kernel_rfl) rfl ?_;replace k:=zj ((k.out.add hf (zb _ _ _)).add hl1 (zb _ _ _));clear hf hl1;go_wp2_with((with_reducible refine zx ?_);refine yE k (E:=KC {x with vPi:=v2,Pi:=l2}) (G':=fun X W=>KSl {x with vPi:=v2,Pi:=l2} X W/\Sl 26 v1 lP X W) rfl rfl rfl hv2 .a3 (by rfl) (by rfl) ((zO _).and (zb _ _ _)) (fun X W h=>⟨{h.1.1 with Pi:=h.2},h.1.2⟩) ?_;clear k;intro W k);refine zd (zJ rfl) ?_;refine zU [(20,some 44,[]),(21,some 45,[]),(22,some 46,[])] [?v17_20,?v17_21,?v17_22] 1 (by kernel_rfl) (.inr (by kernel_rfl)) ?l17 ?h17;case l17=>
   intro w';iterate 3
    refine lkw rfl rfl (by rfl) ?_ ?_
    ·go_simp<;>with_reducible rfl
    try simp only[Act.put,tS,t0,t1]
   trivial
  simp only[zw,zk,Act.put,tS,t0,t1];refine w1 23 0 (by kernel_rfl) rfl ?_;go_wp2_with((with_reducible refine zx ?_);refine yE k (E:=KC {x with vPi:=v2,Pi:=l2,vP:=v1,P:=lP}) (G':=KSl {x with vPi:=v2,Pi:=l2,vP:=v1,P:=lP}) rfl rfl rfl hv1 .a3 (by rfl) (by rfl) (zO _) (fun X W h=>{h.1 with P:=h.2}) ?_;clear k;intro W k);refine zd (qb (by kernel_rfl)) ?_;refine zv (by kernel_rfl) ?_ _;clear HPer;go_wp2_with fail
  go_ret2
  exact k.out.kpost 3 rfl HB.out k.out.fact {OK.out.mono (Nat.le_succ n) (Nat.le_refl _) (Nat.le_succ m) with P:=hPO.mono (Nat.le_succ n),Pi:=hl2,Pil:=Nat.le_trans hl3 OK.out.Pil} ⟨rfl,rfl,rfl,rfl⟩ ⟨0,0,rfl,by decide,by decide,hLv,HIn.out,rfl,rfl⟩
theorem bits_u32(op:BinOp)(x y:Int):0<=bits op .u32 x y/\bits op .u32 x y<4294967296:=by
 unfold bits;simp only[IntKind.wrap,IntKind.bits,IntKind.signed];constructor<;>simp<;>omega
theorem has_yes(m:ByteArray)(a n:Int)(w:World)(hm:m.size<=maxLen)(h0:0<=a)(h1:a<4294967296)(h2:0<=n)(h3:n<9223372036854775808)(h:a+n<=m.size):
  Calls Tryz.prog 154 #[.string m,.int .u32 a,.int .u64 n] w fun e w'=>e= .returned (.bool true)/\w=w':=by
 unfold maxLen at hm;go_enter Tryz.func154,Tryz.ntmps154;go_wp2
 go_ret
 exact⟨rfl,rfl⟩
theorem has_no(m:ByteArray)(a n:Int)(w:World)(hm:m.size<=maxLen)(h0:0<=a)(h1:a<4294967296)(h2:0<=n)(h3:n<9223372036854775808)(h:(m.size:Int)<a+n):
  Calls Tryz.prog 154 #[.string m,.int .u32 a,.int .u64 n] w fun e w'=>e= .returned (.bool false)/\w=w':=by
 unfold maxLen at hm;have h4:decide (a+n<=(m.size:Int))=false:=by rw[decide_eq_false_iff_not];omega
 go_enter Tryz.func154,Tryz.ntmps154;go_wp2
 go_ret
 exact⟨rfl,rfl⟩
theorem word_yes(m:ByteArray)(a:Int)(w:World)(hm:m.size<=maxLen)(h0:0<=a)(h1:a<4294967296)(h:a% 4=0/\a+4<=m.size):
  Calls Tryz.prog 152 #[.string m,.int .u32 a] w fun e w'=>e= .returned (.bool true)/\w=w':=by
 obtain⟨h2,h3⟩:=h;have H3:=Lib.hid h3;clear h3;go_enter Tryz.func152,Tryz.ntmps152;go_wp2_with(refine(has_yes m a 4 _ hm h0 h1 (by omega) (by omega) H3.out).mono ?_;rintro e w' ⟨rfl,rfl⟩)
 go_ret
 exact⟨rfl,rfl⟩
theorem word_no(m:ByteArray)(a:Int)(w:World)(hm:m.size<=maxLen)(h0:0<=a)(h1:a<4294967296)(h: ¬(a% 4=0/\a+4<=m.size)):
  Calls Tryz.prog 152 #[.string m,.int .u32 a] w fun e w'=>e= .returned (.bool false)/\w=w':=by
 by_cases h2:a% 4=0
 ·have H3:Hid ((m.size:Int)<a+4):=Int.not_le.1 fun x=>h ⟨h2,x⟩
  clear h;go_enter Tryz.func152,Tryz.ntmps152;go_wp2_with(refine(has_no m a 4 _ hm h0 h1 (by omega) (by omega) H3.out).mono ?_;rintro e w' ⟨rfl,rfl⟩)
  go_ret
  exact⟨rfl,rfl⟩
 ·clear h
  have h4:((a% 4)==0)=false:=by rw[beq_eq_false_iff_ne];exact h2
  go_enter Tryz.func152,Tryz.ntmps152;go_wp2
  go_ret
  exact⟨rfl,rfl⟩
def WordE(w:World)(e:Ending)(w':World):Prop:= ∃v x:Int,e= .returned (.tuple #[.int .u32 v,.int .i64 x])/\0<=v/\v<4294967296/\(x=0\/x=10)/\w=w'
theorem load_no(m:ByteArray)(a:Int)(w:World)(hm:m.size<=maxLen)(h0:0<=a)(h1:a<4294967296)(h: ¬(a% 4=0/\a+4<=m.size)):
  Calls Tryz.prog 119 #[.string m,.int .u32 a] w fun e w'=>e= .returned (.tuple #[.int .u32 0,.int .i64 10])/\w=w':=by
 have H:=Lib.hid h;clear h;go_enter Tryz.func119,Tryz.ntmps119;go_wp2_with(refine(word_no m a _ hm h0 h1 H.out).mono ?_;rintro e w' ⟨rfl,rfl⟩)
 go_ret2
 exact⟨rfl,rfl⟩
theorem load_yes(m:ByteArray)(a:Int)(w:World)(hm:m.size<=maxLen)(h0:0<=a)(h1:a<4294967296)(h:a% 4=0/\a+4<=m.size):
  Calls Tryz.prog 119 #[.string m,.int .u32 a] w (WordE w):=by
 have H:=Lib.hid h;have h4:a+4<=m.size:=h.2;clear h;go_enter Tryz.func119,Tryz.ntmps119;go_wp2_with(refine(word_yes m a _ hm h0 h1 H.out).mono ?_;rintro e w' ⟨rfl,rfl⟩)
 go_loop [6,7] (fun v i=> ∃(k x:Int),i= .int .i64 k/\ -1<=k/\k<=3/\v= .int .u32 x/\0<=x/\x<4294967296) (fun _ i=>(intOf i+1).toNat)
 case atStart=>exact⟨_,_,rfl,by omega,by omega,rfl,by omega,by omega⟩
 case round=>
  obtain⟨k,x,rfl,hk0,hk1,rfl,hx0,hx1⟩:=hrel;by_cases hlt:0<=k
  ·go_wp2
   go_round
   case rel=>exact⟨_,_,rfl,by omega,by omega,rfl,(bits_u32 _ _ _).1,(bits_u32 _ _ _).2⟩
   case measure=>simp[intOf];omega
  ·go_wp2
   go_ret2
   exact⟨x,0,rfl,hx0,hx1,.inl rfl,rfl⟩
theorem byte_any(m:ByteArray)(a:Int)(w:World)(hm:m.size<=maxLen)(h0:0<=a)(h1:a<4294967296):
  Calls Tryz.prog 121 #[.string m,.int .u32 a] w (WordE w):=by
 by_cases h:a+1<=m.size
 ·have h4:a<m.size:=by omega
  have H:=Lib.hid h;clear h;go_enter Tryz.func121,Tryz.ntmps121;go_wp2_with(refine(has_yes m a 1 _ hm h0 h1 (by omega) (by omega) H.out).mono ?_;rintro e w' ⟨rfl,rfl⟩)
  go_ret2
  exact⟨_,_,rfl,by omega,by omega,.inl rfl,rfl⟩
 ·have H:=Lib.hid (Int.not_le.1 h)
  clear h;go_enter Tryz.func121,Tryz.ntmps121;go_wp2_with(refine(has_no m a 1 _ hm h0 h1 (by omega) (by omega) H.out).mono ?_;rintro e w' ⟨rfl,rfl⟩)
  go_ret2
  exact⟨_,_,rfl,by omega,by omega,.inr rfl,rfl⟩
theorem load_any(m:ByteArray)(a:Int)(w:World)(hm:m.size<=maxLen)(h0:0<=a)(h1:a<4294967296):
  Calls Tryz.prog 119 #[.string m,.int .u32 a] w (WordE w):=by
 by_cases h:a% 4=0/\a+4<=m.size
 ·exact load_yes m a w hm h0 h1 h
 ·exact(load_no m a w hm h0 h1 h).mono fun _ _ ⟨e,hw⟩=>⟨0,10,e,by omega,by omega,.inr rfl,hw⟩
def StrE(n:Nat)(w:World)(e:Ending)(w':World):Prop:= ∃(s:ByteArray) (x:Int),e= .returned (.tuple #[.string s,.int .i64 x])/\s.size=n/\(x=0\/x=10)/\Below w.heap.size w w'
theorem out_any(m:ByteArray)(a n:Int)(w:World)(hm:m.size<=maxLen)(h0:0<=a)(h1:a<4294967296)(h2:0<=n)(h3:n<4294967296):
  Calls Tryz.prog 180 #[.string m,.int .u32 a,.int .u32 n] w fun e w'=> ∃(s:ByteArray) (x:Int),e= .returned (.tuple #[.string s,.int .i64 x])/\s.size<=m.size/\(x=0->(s.size:Int)=n/\a+n<=m.size)/\(x=0\/x=10)/\w=w':=by
 unfold maxLen at hm;by_cases h:a+n<=m.size
 ·go_enter Tryz.func180,Tryz.ntmps180
  go_wp2_with(refine(has_yes m a n _ hm h0 h1 h2 (by omega) h).mono ?_;rintro e w' ⟨rfl,rfl⟩)
  go_ret2
  refine⟨_,_,rfl,?_,?_,.inl rfl,rfl⟩
  ·simp[ByteArray.size_extract];omega
  ·intro _;simp[ByteArray.size_extract];omega
 ·go_enter Tryz.func180,Tryz.ntmps180
  go_wp2_with(refine(has_no m a n _ hm h0 h1 h2 (by omega) (Int.not_le.1 h)).mono ?_;rintro e w' ⟨rfl,rfl⟩)
  go_ret2
  exact⟨_,_,rfl,Nat.zero_le _,(fun x=>by cases x),.inr rfl,rfl⟩
theorem conv_lay(m:ByteArray)(w:World): ∃(cap:Nat) (C:Array Value),m.size<=cap/\m.size<=C.size/\(∀j,j<m.size-> ∃x:UInt8,C[j]? =some (.int .u8 (x.toNat:Int)))/\
  (convert 9 201 (.string m)).run Tryz.prog w= .ok (.slice (some ⟨w.heap.size,0,none⟩) m.size cap) (w.drew.alloc (.cells C 5 (C.size,C.size+1))):=
 ⟨_,_,grownCap_ge _ _ _ _,by simp[bytesRow],fun j hj=>⟨_,bytesRow_at m _ j hj⟩,run_bytes_of_string w _ _ 5 m Tryz.underlying9 Tryz.underlying201 Tryz.underlying5⟩
theorem choose_bytes{n:Nat}{w:World}{a:Addr}(h: ∀j,j<n-> ∃x:UInt8,w.cell? (a.add j)=some (.int .u8 (x.toNat:Int))):
  ∃l:List UInt8,l.length=n/\ ∀j (hj:j<l.length),w.cell? (a.add j)=some (.int .u8 (l[j].toNat:Int)):=by
 induction n with
 |zero=>exact⟨[],rfl,fun j hj=>by simp at hj⟩
 |succ n ih=>
  obtain⟨l,hl,hc⟩:=ih (fun j hj=>h j (by omega));obtain⟨x,hx⟩:=h n (by omega);refine⟨l++ [x],by simp[hl],fun j hj=> ?_⟩;by_cases e:j<l.length
  ·rw[List.getElem_append_left e];exact hc j e
  ·have:j=n:=by simp[hl] at hj e;omega
   subst this;simp[<-hl] at hx⊢;exact hx
theorem u8_list{w:World}{b:Nat}{l:List UInt8}{o n:Nat}(hh: ∀j,j<n-> ∃x:UInt8,w.cell? ⟨b,j,none⟩=some (.int .u8 (x.toNat:Int)))(h:o+l.length<=n):
  ∀j,j<n-> ∃x:UInt8,(w.setCells b o (l.map fun x=>Value.int .u8 (x.toNat:Int))).cell? ⟨b,j,none⟩=some (.int .u8 (x.toNat:Int)):=by
 intro j hj;by_cases e:o<=j/\j<o+l.length
 ·obtain⟨k,rfl⟩: ∃k,j=o+k:=⟨j-o,by omega⟩
  rw[World.cell?_setCells_in _ _ _ _ (fun j hj=>by
   rw[List.length_map] at hj;obtain⟨x,hx⟩:=hh (o+j) (by omega);rw[hx];rfl) k (by rw[List.length_map];omega)]
  exact⟨l[k]'(by omega),by simp⟩
 ·rw[World.cell?_setCells_out _ _ _ _ _ (fun _ _=>by rw[List.length_map];simp;omega)]
  exact hh j hj
theorem with_lay(m s:ByteArray)(a cap:Nat)(C:Array Value)(w:World)(hC:m.size<=C.size)(hb: ∀j,j<m.size-> ∃x:UInt8,C[j]? =some (.int .u8 (x.toNat:Int)))(h:a+s.size<=m.size)(off:Nat)(ho:off=a\/(off=0/\s.size=0)):
  ∃(W2:World) (k:ByteArray),k.size=m.size/\Below w.heap.size w W2/\
   (∀d:Nat,(Builtin.copy_ #[201,9] 3 #[.slice (some ⟨w.heap.size,off,none⟩) (m.size-a) d,.string s]).run Tryz.prog (w.alloc (.cells C 5 (C.size,C.size+1))).drew= .ok (goInt s.size) W2)/\
   (convert 201 9 (.slice (some ⟨w.heap.size,0,none⟩) m.size cap)).run Tryz.prog W2= .ok (.string k) W2:=by
 have hcell: ∀j,j<m.size-> ∃x:UInt8,(w.alloc (.cells C 5 (C.size,C.size+1))).drew.cell? ⟨w.heap.size,j,none⟩=some (.int .u8 (x.toNat:Int)):=fun j hj=>by
  obtain⟨x,hx⟩:=hb j hj;exact⟨x,(World.cell?_alloc_mark w C _ _ j).trans hx⟩
 have hfit:off+s.data.toList.length<=m.size:=by
  have:s.data.toList.length=s.size:=by rw[<-Lib.size_eq]
  rcases ho with rfl|⟨rfl,h0⟩<;>omega
 have hlen:s.data.toList.length=s.size:=by rw[<-Lib.size_eq]
 have hall:=u8_list (o:=off) hcell hfit;obtain⟨l,hl,hc⟩:=choose_bytes (a:=⟨w.heap.size,0,none⟩) (w:=(w.alloc (.cells C 5 (C.size,C.size+1))).drew.setCells w.heap.size off (s.data.toList.map fun x=>Value.int .u8 (x.toNat:Int))) (n:=m.size) (fun j hj=>by
  obtain⟨x,hx⟩:=hall j hj;refine⟨x,?_⟩;have:(⟨w.heap.size,0,none⟩:Addr).add j=⟨w.heap.size,j,none⟩:=by unfold Addr.add;split<;>simp_all
  rw[this];exact hx)
 refine⟨(w.alloc (.cells C 5 (C.size,C.size+1))).drew.setCells w.heap.size off (s.data.toList.map fun x=>Value.int .u8 (x.toNat:Int)),⟨l.toArray⟩,(show l.toArray.size=m.size from by rw[List.size_toArray];exact hl),?_,fun d=> ?_,?_⟩
 ·exact Go.below_setCells (Nat.le_refl _) _ _ _ (((Below.refl _ _).alloc (Nat.le_refl _) _).drew)
 ·refine Go.run_copy_string _ _ _ _ 5 w.heap.size off (m.size-a) d s Tryz.underlying201 (fun w=>Tryz.sizeOf5 w) (by omega) (fun j hj=> ?_) (fun j hj=> ?_)
  ·obtain⟨x,hx⟩:=hcell (off+j) (by omega)
   rw[hx];rfl
  ·show(w.alloc (.cells C 5 (C.size,C.size+1))).frozen? _=false
   rw[World.frozen?_alloc_mark];simp;omega
 ·rw[<-hl]
  exact run_convert_bytes_back _ _ _ 5 ⟨w.heap.size,0,none⟩ cap l Tryz.underlying201 Tryz.underlying5 Tryz.underlying9 hc
set_option maxRecDepth 100000 in
theorem with_any(m s:ByteArray)(a:Int)(w:World)(_hm:m.size<=maxLen)(h0:0<=a)(h1:a<4294967296)(h:a+s.size<=m.size):
  Calls Tryz.prog 155 #[.string m,.int .u32 a,.string s] w fun e w'=> ∃(k:ByteArray),e= .returned (.string k)/\k.size=m.size/\Below w.heap.size w w':=by
 unfold maxLen at _hm;obtain⟨cap,C,hcap,hC,hb,hconv⟩:=conv_lay m w;by_cases hca:cap=a.toNat
 ·subst hca
  obtain⟨W2,k,hk,hB,hcp,hst⟩:=with_lay m s a.toNat a.toNat C w hC hb (by omega) 0 (.inr ⟨rfl,by omega⟩);have hcp0:=hcp 0;rw[show m.size-a.toNat=0 by omega] at hcp0;clear hb hcp;go_enter Tryz.func155,Tryz.ntmps155;go_wp2
  go_ret
  exact⟨k,rfl,hk,hB⟩
 ·obtain⟨W2,k,hk,hB,hcp,hst⟩:=with_lay m s a.toNat cap C w hC hb (by omega) a.toNat (.inl rfl)
  clear hb;go_enter Tryz.func155,Tryz.ntmps155;go_wp2
  go_ret
  exact⟨k,rfl,hk,hB⟩
theorem in_any(m s:ByteArray)(a:Int)(w:World)(hm:m.size<=maxLen)(hs:s.size<=4294967296)(h0:0<=a)(h1:a<4294967296):
  Calls Tryz.prog 183 #[.string m,.int .u32 a,.string s] w (StrE m.size w):=by
 by_cases h:a+s.size<=m.size
 ·have H:=Lib.hid h
  clear h;go_enter Tryz.func183,Tryz.ntmps183;go_wp2_with fail;refine(has_yes m a s.size _ hm h0 h1 (by omega) (by omega) H.out).mono ?_;rintro e w' ⟨rfl,rfl⟩;go_wp2_with fail;refine(with_any m s a _ hm h0 h1 H.out).mono ?_;rintro e w1 ⟨k,rfl,hk,hb⟩;have HK:=Lib.hid hk;clear hk;go_wp2
  go_ret2
  exact⟨k,0,rfl,HK.out,.inl rfl,hb⟩
 ·have H:=Lib.hid (Int.not_le.1 h)
  clear h;go_enter Tryz.func183,Tryz.ntmps183;go_wp2_with fail;refine(has_no m a s.size _ hm h0 h1 (by omega) (by omega) H.out).mono ?_;rintro e w' ⟨rfl,rfl⟩;go_wp2
  go_ret2
  exact⟨m,10,rfl,rfl,.inr rfl,Below.refl _ _⟩
set_option maxRecDepth 100000 in
theorem sput_any(m:ByteArray)(a v:Int)(w:World)(hm:m.size<=maxLen)(h0:0<=a)(h1:a<4294967296)(_h2:0<=v)(_h3:v<4294967296):
  Calls Tryz.prog 123 #[.string m,.int .u32 a,.int .u32 v] w (StrE m.size w):=by
 by_cases h:a+1<=m.size
 ·have H:=Lib.hid h
  clear h;go_enter Tryz.func123,Tryz.ntmps123;go_wp2_with fail;obtain⟨x,hx⟩: ∃x:UInt8,(x.toNat:Int)=v% 256:=⟨UInt8.ofNat (v% 256).toNat,by rw[UInt8.toNat_ofNat'];omega⟩;have hst:=run_convert_bytes_back (P:=Tryz.prog) (w.alloc (.cells #[.int .u8 (v% 256)] 5)) 201 9 5 ⟨w.heap.size,0,none⟩ 1 [x] Tryz.underlying201 Tryz.underlying5 Tryz.underlying9 (fun j hj=>by
   obtain rfl:j=0:=by simp at hj;exact hj
   rw[show(⟨w.heap.size,0,none⟩:Addr).add 0=⟨w.heap.size,0,none⟩ from rfl,World.cell?_alloc_mark];simp[hx])
  simp only[List.length_cons,List.length_nil,Nat.zero_add] at hst;clear hx;refine(has_yes m a 1 _ hm h0 h1 (by omega) (by omega) H.out).mono ?_;rintro e w' ⟨rfl,rfl⟩;go_wp2_with fail;refine(with_any m ⟨#[x]⟩ a _ hm h0 h1 H.out).mono ?_;rintro e w1 ⟨k,rfl,hk,hb⟩;have HK:=Lib.hid hk;clear hk;go_wp2
  go_ret2
  exact⟨k,0,rfl,HK.out,.inl rfl,below_call hb⟩
 ·have H:=Lib.hid (Int.not_le.1 h)
  clear h;go_enter Tryz.func123,Tryz.ntmps123;go_wp2_with fail;refine(has_no m a 1 _ hm h0 h1 (by omega) (by omega) H.out).mono ?_;rintro e w' ⟨rfl,rfl⟩;go_wp2
  go_ret2
  exact⟨m,10,rfl,rfl,.inr rfl,Below.refl _ _⟩
def Row4(w W:World):Prop:=Below w.heap.size w W/\W.heap.size=w.heap.size+1/\ ∃C:Array Value,W.heap[w.heap.size]? =some (.cells C 255 (0,0))/\C.size=4/\ ∀j,j<4-> ∃x:UInt8,C[j]? =some (.int .u8 (x.toNat:Int))
theorem row4_new(w:World):Row4 w (w.alloc (.cells #[.int .u8 0,.int .u8 0,.int .u8 0,.int .u8 0] 255)):=
 ⟨xw _ _,by simp,_,heap_new w _,rfl,fun j hj=>⟨0,by match j,hj with|0,_=>rfl|1,_=>rfl|2,_=>rfl|3,_=>rfl⟩⟩
theorem Row4.cell{w W:World}(h:Row4 w W){k:Nat}(hk:k<4): ∃x:UInt8,W.cell? ⟨w.heap.size,k,none⟩=some (.int .u8 (x.toNat:Int)):=by
 obtain⟨_,_,C,hC,_,hx⟩:=h;obtain⟨x,hx⟩:=hx k hk;exact⟨x,by simp only[World.cell?,hC];simpa using hx⟩
theorem Row4.free{w W:World}(h:Row4 w W)(k:Nat):W.frozen? ⟨w.heap.size,k,none⟩=false:=by
 obtain⟨_,_,C,hC,_,_⟩:=h;simp[World.frozen?,hC]
theorem Row4.set{w W:World}(h:Row4 w W){k:Nat}(hk:k<4)(y:Int)(h0:0<=y)(h1:y<256):Row4 w (W.setCell ⟨w.heap.size,k,none⟩ (.int .u8 y)):=by
 obtain⟨hb,hs,C,hC,h4,hx⟩:=h;refine⟨hb.setCell (Nat.le_refl _) _,by simpa[World.setCell] using hs,_,modify_at hC,by simpa using h4,fun j hj=> ?_⟩;by_cases e:j=k
 ·subst e
  refine⟨UInt8.ofNat y.toNat,?_⟩;rw[Array.getElem?_setIfInBounds_self_of_lt (by omega),UInt8.toNat_ofNat'];congr 2;omega
 ·rw[Array.getElem?_setIfInBounds_ne (by omega)]
  exact hx j hj
theorem store_any(m:ByteArray)(a v:Int)(w:World)(hm:m.size<=maxLen)(h0:0<=a)(h1:a<4294967296)(_h2:0<=v)(_h3:v<4294967296):
  Calls Tryz.prog 122 #[.string m,.int .u32 a,.int .u32 v] w (StrE m.size w):=by
 by_cases h:a% 4=0/\a+4<=m.size
 ·have h4:a+4<=m.size:=h.2
  have H:=Lib.hid h;clear h;go_enter Tryz.func122,Tryz.ntmps122;go_wp2_with fail;refine(word_yes m a _ hm h0 h1 H.out).mono ?_;rintro e w' ⟨rfl,rfl⟩;go_wp2_with fail
  go_loopw [15] (fun i W=> ∃k:Nat,k<=4/\i= .int .i64 k/\Hid (Row4 w W)) (fun i _=>4-(intOf i).toNat)
  case atStart=>exact⟨0,by omega,rfl,row4_new w⟩
  case round=>
   obtain⟨k,hk,rfl,hR⟩:=hrel;by_cases hlt:k<4
   ·obtain⟨x,hx⟩:=hR.out.cell hlt
    have hf:=hR.out.free k;have hk0:(0:Int)<=(k:Int):=Int.natCast_nonneg _;have hk1:(k:Int)<4:=by omega
    go_wp2
    go_roundw
    case rel=>exact⟨k+1,by omega,by go_num,hR.out.set hlt _ (by omega) (by omega)⟩
    case measure=>simp[intOf];omega
   ·obtain rfl:k=4:=by omega
    obtain⟨l,hl,hc⟩:=choose_bytes (a:=⟨w.heap.size,0,none⟩) (w:=wr) (n:=4) (fun j hj=>by
     have:(⟨w.heap.size,0,none⟩:Addr).add j=⟨w.heap.size,j,none⟩:=by unfold Addr.add;split<;>simp_all
     rw[this];exact hR.out.cell hj)
    have hst:=run_convert_bytes_back (P:=Tryz.prog) wr 201 9 5 ⟨w.heap.size,0,none⟩ 4 l Tryz.underlying201 Tryz.underlying5 Tryz.underlying9 hc;have hls:(⟨l.toArray⟩:ByteArray).size=4:=(show l.toArray.size=4 from by rw[List.size_toArray];exact hl);rw[hl] at hst;have HS:=Lib.hid hls;clear hl hls hc;generalize (⟨l.toArray⟩:ByteArray)=bs at HS hst;go_wp2_with fail;refine(with_any m bs a _ hm h0 h1 (by rw[HS.out];exact H.out.2)).mono ?_;rintro e w1 ⟨k,rfl,hk,hb⟩;have HK:=Lib.hid hk;have hs1:=hR.out.2.1;clear hk;go_wp2
    go_ret2
    exact⟨k,0,rfl,HK.out,.inl rfl,hR.out.1.trans (hb.mono (by omega))⟩
 ·have H:=Lib.hid h
  clear h;go_enter Tryz.func122,Tryz.ntmps122;go_wp2_with fail;refine(word_no m a _ hm h0 h1 H.out).mono ?_;rintro e w' ⟨rfl,rfl⟩;go_wp2
  go_ret2
  exact⟨m,10,rfl,rfl,.inr rfl,Below.refl _ _⟩
end Go.Proofs.YtaccidkgnkmagaaGreatDoor.Top
