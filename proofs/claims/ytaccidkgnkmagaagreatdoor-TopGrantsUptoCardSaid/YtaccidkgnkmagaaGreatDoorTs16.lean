/-
  Walks and laws of the whole machine: Kern13. Conditions: each theorem names its own.
-/
import Derived.Test.YtaccidkgnkmagaaGreatDoorTs15
set_option maxRecDepth 16000
set_option maxHeartbeats 12800000
set_option linter.unusedVariables false
set_option linter.unusedSimpArgs false
namespace Go.Proofs.YtaccidkgnkmagaaGreatDoor.Top
open Go.RowKit
def FreshR(x:Kn)(e:Ending)(x':Kn):Prop:=
 ∃z y:Int,e= .returned (.tuple #[.int .u32 z,.int .i64 y])/\0<=z/\z<4294967296/\(y=0\/y=1\/y=5)/\Liv x.P x'.P/\(∀p∈xh x.P,p∈xh x'.P)/\x'.gone=x.gone/\x'.want=x.want/\x'.Tr=x.Tr
theorem wrap_u32_fit{z:Int}(h0:0<=z)(h1:z<4294967296):IntKind.u32.wrap z=z:=by
 simp only[IntKind.wrap,IntKind.bits,IntKind.signed];simp;omega
theorem fresh_row{r:Array Value}(h:Ty yu r){z:Int}(h0:1<=z)(h1:z<=9223372036854775807):
  Ty yu (patch ((r.setIfInBounds 0 (.int .i64 z)).setIfInBounds 2 (.int .i64 1)) 22 #[.int .u32 0,.int .u32 0,.int .u32 0,.int .u32 0])/\zX (patch ((r.setIfInBounds 0 (.int .i64 z)).setIfInBounds 2 (.int .i64 1)) 22 #[.int .u32 0,.int .u32 0,.int .u32 0,.int .u32 0])=z/\ym (patch ((r.setIfInBounds 0 (.int .i64 z)).setIfInBounds 2 (.int .i64 1)) 22 #[.int .u32 0,.int .u32 0,.int .u32 0,.int .u32 0])=ym r/\(patch ((r.setIfInBounds 0 (.int .i64 z)).setIfInBounds 2 (.int .i64 1)) 22 #[.int .u32 0,.int .u32 0,.int .u32 0,.int .u32 0]).toList[0]? =some (.int .i64 z):=by
 have hs:r.size=26:=h.size;have t1:=(h.set (j:=0) (v:= .int .i64 z) rfl (yY (by omega) h1)).set (j:=2) (v:= .int .i64 1) rfl (yY (by decide) (by decide));have hz:Ty kCall #[.int .u32 0,.int .u32 0,.int .u32 0,.int .u32 0]:=⟨ju (by decide) (by decide),ju (by decide) (by decide),ju (by decide) (by decide),ju (by decide) (by decide),trivial⟩;have s1:((r.setIfInBounds 0 (.int .i64 z)).setIfInBounds 2 (.int .i64 1)).size=26:=by rw[Array.size_setIfInBounds,Array.size_setIfInBounds,hs]
 have c0:(patch ((r.setIfInBounds 0 (.int .i64 z)).setIfInBounds 2 (.int .i64 1)) 22 #[.int .u32 0,.int .u32 0,.int .u32 0,.int .u32 0])[0]? =some (.int .i64 z):=by
  rw[jw _ _ _ 0 (by decide) (by omega),Array.getElem?_setIfInBounds_ne (by decide),Array.getElem?_setIfInBounds_self_of_lt (by omega)]
 refine⟨t1.patch hz 22 rfl (by decide),?_,?_,by rw[Array.getElem?_toList];exact c0⟩
 ·unfold zX zQ
  rw[c0]
 ·unfold ym zQ
  rw[jw _ _ _ 1 (by decide) (by omega),Array.getElem?_setIfInBounds_ne (by decide),Array.getElem?_setIfInBounds_ne (by decide)]
set_option maxHeartbeats 16000000 in
theorem fresh_any(bk n s m:Nat)(x:Kn)(X0:Nat->Prop)(w:World)(h:KPre bk n s m x X0 w)(r:Array Value)(hr:Ty yu r)(hpar:ym r=0\/ym r∈xh x.P):
  Calls Tryz.prog 53 #[.pointer (some ⟨bk,0,none⟩),.agg r] w (qX bk (n+2) s m x X0 w (FreshR x)):=by
 have k:=zj h.begin;have OK:=Lib.hid h.ok;have HB:=Lib.hid h.blk;have hn:=h.hn;have hs:=h.hs;have hrs:r.size=26:=hr.size;have hro:=hr.one;obtain⟨A,c,eP,hlc,hcm⟩:=h.sl.P.len;have hlen:=h.ok.P.len;clear h;by_cases hfull:6<=x.P.length
 ·have d0:decide ((6:Int)<=x.P.length)=true:=decide_eq_true (by omega)
  go_enter Tryz.func53,Tryz.ntmps53;go_wp2_with(first|((with_reducible refine zz ?_);refine ld1 k rfl rfl .a1 (by first|with_reducible assumption|(simp only[Array.size_setIfInBounds,hrs];rfl)|rfl) ?_)|((with_reducible refine zI ?_);refine bxa k rfl ?_;clear k;intro b X W k));exact bodyPost_ret (xJ rfl rfl rfl) rfl (k.out.kpost 1 rfl HB.out k.out.fact (OK.out.mono (by omega) (Nat.le_refl _) (Nat.le_refl _)) (KRel.refl x) ⟨0,5,rfl,by omega,by omega,.inr (.inr rfl),Liv.refl _,fun _ h=>h,rfl,rfl,rfl⟩)
 ·have d0:decide ((6:Int)<=x.P.length)=false:=decide_eq_false (by omega)
  go_enter Tryz.func53,Tryz.ntmps53
  go_upto_region 3 with(first|((with_reducible refine zz ?_);refine ld1 k rfl rfl .a1 (by first|with_reducible assumption|(simp only[Array.size_setIfInBounds,hrs];rfl)|rfl) ?_)|((with_reducible refine zI ?_);refine bxa k rfl ?_;clear k;intro b X W k))
  clear eP;go_wp2_with((with_reducible refine zz ?_);refine ld1 k rfl rfl .a1 (by first|with_reducible assumption|(simp only[Array.size_setIfInBounds,hrs];rfl)|rfl) ?_);refine(next_any _ x.P n _ _ k.out.fact.P OK.out.P.ty (fun q hq=>(OK.out.P.pid q hq).2) (by omega) (by omega) (by omega)).mono ?_;rintro e W1 ⟨z,rfl,hz1,hz2,hz3,hb⟩;replace k:=zj (k.out.call hb);clear hb;have hzn:z<=1000001:=by omega
  have HZ2:=Lib.hid hz2;have HZ3:=Lib.hid hz3;clear hz2 hz3;have fb2:Nat.blt 2 (r.setIfInBounds 0 (.int .i64 z)).size=true:=by rw[Array.size_setIfInBounds,hrs];rfl
  have fb22:Nat.ble (22+4) ((r.setIfInBounds 0 (.int .i64 z)).setIfInBounds 2 (.int .i64 1)).size=true:=by rw[Array.size_setIfInBounds,Array.size_setIfInBounds,hrs];rfl
  go_upto_region 4 with((with_reducible refine zx ?_);first|(refine so1 k rfl rfl rfl (by first|with_reducible assumption|(simp only[Array.size_setIfInBounds,hrs];rfl)|rfl) .a0 (by first|with_reducible assumption|(simp only[Array.size_setIfInBounds,hrs];rfl)|rfl) rfl ?_;clear k;intro W k)|(refine sop k rfl rfl rfl .a0 (by first|with_reducible assumption|(simp only[Array.size_setIfInBounds,hrs];rfl)|rfl) (by first|with_reducible assumption|(simp only[Array.size_setIfInBounds,hrs];rfl)|rfl) (zm rfl) rfl ?_;clear k;intro W k))
  replace k:Hid (St _ _ _ [(_,patch ((r.setIfInBounds 0 (.int .i64 z)).setIfInBounds 2 (.int .i64 1)) 22 #[.int .u32 0,.int .u32 0,.int .u32 0,.int .u32 0],_),(_,KC x,_)] _ _ _):=k;obtain⟨hT,hpi,hpa,e0⟩:=fresh_row hr hz1 (by omega);have hz2:=HZ2.out;have hz3:=HZ3.out;generalize patch ((r.setIfInBounds 0 (.int .i64 z)).setIfInBounds 2 (.int .i64 1)) 22 #[.int .u32 0,.int .u32 0,.int .u32 0,.int .u32 0]=r1 at k hT hpi hpa e0;have hpr:0<=ym r/\ym r<z:=by
   rcases hpar with h|h
   ·omega
   ·obtain⟨q,hq,he⟩:=qy.1 h
    have h1:=hz3 q hq;have h2:=OK.out.P.pid q hq;omega
  obtain⟨hPO,hLiv,hpp,_⟩:=(OK.out.P.mono (show n<=n+1 by omega)).putNew hT (by rw[hpi];exact hz3) (by rw[hpi];omega) (by rw[hpi,hpa];exact hpr) (by omega);have HPO:=Lib.hid hPO;have HLV:=Lib.hid hLiv;have HPP:=Lib.hid hpp;have hrs1:r1.size=26:=hT.size;have hro1:=hT.one;obtain⟨F,hF,eF,fF⟩:=fds_of hT;obtain⟨f0,g0,f1,g1,f2,g2,f3,g3,rfl⟩:=fds_lit hF;have HT:=Lib.hid hT;have hwz:IntKind.u32.wrap z=z:=wrap_u32_fit (by omega) (by omega);clear hT hPO hLiv hpp hr hrs hro fb2 fb22 hpr hpar hF hz2 hz3;have HPer:=Lib.hid k.out.per;refine zt k 13 16 (by kernel_rfl) rfl ?_;clear k;intro W k;refine zq [(0,some 29,[13]),(1,some 30,[13]),(2,some 31,[13]),(3,some 32,[13]),(4,some 33,[13]),(5,some 34,[13]),(6,some 35,[13])] [?v26_0,?v26_1,?v26_2,?v26_3,?v26_4,?v26_5,?v26_6] 9 (by kernel_rfl) ⟨_,k.out⟩ ?l26 ?h26;case l26=>
   intro w' hSw;iterate 7
    refine lkw rfl rfl (by rfl) ?_ ?_
    ·first|((with_reducible refine yw ?_);first|exact hSw.l1 rfl rfl (by repeat constructor) (by first|with_reducible assumption|(simp only[Array.size_setIfInBounds,hrs];rfl)|rfl)|exact hSw.la rfl rfl .a0 (by first|with_reducible assumption|(simp only[Array.size_setIfInBounds,hrs];rfl)|rfl) (by rfl)|exact hSw.lp rfl rfl .a1 (D:= #[_,_]) (by rfl) (by rfl) (by rfl))|(go_simp<;>with_reducible rfl)
    try simp only[Act.put,tS,t0,t1]
   trivial
  simp only[zw,zk,Act.put,tS,t0,t1];refine yI (i:=7) (j:=12) (fuel:=8) (by kernel_rfl) rfl rfl ?_ ?_
  ·go_wp2_with fail
   refine(htake_any x.hsz z _ x.H _ W k.out.fact.H OK.out.H (by have:=OK.out.Hl;omega) k.out.lt OK.out.hsz (by omega) (by omega)).mono ?_;rintro e W1 ⟨vh,lh,ha,he,rfl,hh1,hh2,hh3,hhe,hb⟩;have hvh:=hh1.one;replace k:=zj ((k.out.call hb).add hh1 (zb _ _ _));clear hb hh1;go_wp2_with fail;refine zd (yz ⟨_,(k.out.turn And.left (zO _))⟩) ?_;refine zq [(8,some 28,[13]),(9,some 37,[13])] [?v27_8,?v27_9] 6 (by kernel_rfl) ⟨_,(k.out.turn And.left (zO _))⟩ ?l27 ?h27;case l27=>
    intro w' hSw;iterate 2
     refine lkw rfl rfl (by rfl) ?_ ?_
     ·go_simp<;>with_reducible rfl
     try simp only[Act.put,tS,t0,t1]
    trivial
   simp only[zw,zk,Act.put,tS,t0,t1];refine zU [(10,some 38,[]),(11,some 39,[])] [?v28_10,?v28_11] 4 (by kernel_rfl) (.inl ⟨_,(k.out.turn And.left (zO _))⟩) ?l28 ?h28;case l28=>
    intro w';iterate 2
     refine lkw rfl rfl (by rfl) ?_ ?_
     ·go_simp<;>with_reducible rfl
     try simp only[Act.put,tS,t0,t1]
    trivial
   simp only[zw,zk,Act.put,tS,t0,t1];refine w1 12 3 (by kernel_rfl) rfl ?_;go_wp2_with((with_reducible refine zf ?_);refine ala k Tryz.zeroValue50 ?_;clear k;intro b50 X W k);refine zd (yz ⟨_,(k.out.turn And.left (zO _)).drop (n:=1)⟩) ?_;refine w1 13 2 (by kernel_rfl) rfl ?_;go_wp2_with((with_reducible refine zx ?_);refine soa k rfl rfl rfl .a0 rfl rfl (yU rfl hvh) ?_;clear k;intro W k);refine zd (zJ rfl) ?_;refine zU [(14,some 7,[]),(15,some 8,[])] [?v29_14,?v29_15] 0 (by kernel_rfl) (.inr (by kernel_rfl)) ?l29 ?h29;case l29=>
    intro w';iterate 2
     refine lkw rfl rfl (by rfl) ?_ ?_
     ·go_simp<;>with_reducible rfl
     try simp only[Act.put,tS,t0,t1]
    trivial
   simp only[zw,zk,Act.put,tS,t0,t1];refine zv (by kernel_rfl) ?_ _;clear HPer;replace k:Hid (St _ _ _ [(b50,#[.int .i64 x.hsz,vh],50),(_,r1,_),(_,KC x,_)] _ _ _):=k;rcases hhe with rfl|rfl|rfl
   ·go_upto_region 8 with(first|((with_reducible refine zx ?_);refine sopt k (E:=KC {x with vH:=vh,H:=lh}) (G':=KSl {x with vH:=vh,H:=lh}) rfl rfl rfl .a2 (by rfl) (by rfl) (yU rfl hvh) (by rfl) (zO _) (fun X W h=>{h.1 with H:=h.2}) ?_;clear k;intro W k)|((with_reducible refine zz ?_);refine lda k rfl rfl .a0 (by first|with_reducible assumption|(simp only[Array.size_setIfInBounds,hrs];rfl)|rfl) ?_))
    obtain⟨x2,hx2⟩: ∃x2:Kn,x2={x with vH:=vh,H:=lh}:=⟨_,rfl⟩;replace k:Hid (St _ _ _ [(b50,#[.int .i64 x.hsz,vh],50),(_,r1,_),(_,KC {x with vH:=vh,H:=lh},_)] (KSl {x with vH:=vh,H:=lh}) _ _):=k;rw[<-hx2] at k;have OK2:Hid (KOk (n+1) s m x2):=by
     have q:=OK.out.mono (show n<=n+1 by omega) (Nat.le_refl _) (Nat.le_refl _);rw[hx2];exact{q with H:=hh2,Hl:=Nat.le_trans hh3 (Nat.succ_le_succ OK.out.Hl)}
    have hR2:Hid (KRel x x2/\x2.P=x.P/\x2.gone=x.gone/\x2.want=x.want/\x2.Tr=x.Tr):=by rw[hx2];exact⟨⟨rfl,rfl,rfl,rfl⟩,rfl,rfl,rfl,rfl⟩
    clear hx2 hh2 hh3;go_wp2_with((with_reducible refine zz ?_);refine ldp k rfl rfl .a1 (D:= #[.int .i64 f0,.bool g0,.int .i64 f1,.bool g1,.int .i64 f2,.bool g2,.int .i64 f3,.bool g3]) eF fF ?_);clear eF;replace k:Hid (St _ _ _ [(b50,#[.int .i64 x.hsz,vh],50),(_,r1,_),(_,KC x2,_)] _ _ _):=k
    go_loopw [50] (fun i W=> ∃kk:Nat,kk<=4/\i= .int .i64 kk/\Hid (CntI bk (n+1) s m x2 X0 w [(b50,#[.int .i64 x.hsz,vh],50),(b,r1,132)] W)) (fun i _=>4-(intOf i).toNat)
    case atStart=>exact⟨0,by omega,rfl,zj ⟨x2,_,k.out,OK2.out,KRel.refl x2,rfl,rfl,rfl,rfl⟩⟩
    case round=>
     obtain⟨kk,hkk,rfl,hI⟩:=hrel;have HI:=hI;obtain⟨y,X,ky,OKy,hrel,hyP,hyg,hyw,hyt⟩:=hI.out;have OKY:=Lib.hid OKy;have REL:=Lib.hid hrel;clear k OKy hrel hI HI;have q0:=fun w=>(idx128 (f0:=f0) (f1:=f1) (f2:=f2) (f3:=f3) (g0:=g0) (g1:=g1) (g2:=g2) (g3:=g3) w);have q1:=fun w=>(q0 w).1;have q2:=fun w=>(q0 w).2.1;have q3:=fun w=>(q0 w).2.2.1;have q4:=fun w=>(q0 w).2.2.2;clear q0;have k:=zj ky;clear ky;replace k:Hid (St _ _ _ [(_,_,_),(_,r1,_),(_,KC y,_)] _ _ _):=k;have hk5:kk=0\/kk=1\/kk=2\/kk=3\/kk=4:=by omega
     rcases hk5 with rfl|rfl|rfl|rfl|rfl
     ·go_upto_region 11 with(first|((with_reducible refine zx ?_);refine soa k rfl rfl rfl .a0 (by first|with_reducible assumption|(simp only[Array.size_setIfInBounds,hrs];rfl)|rfl) (by first|with_reducible assumption|(simp only[Array.size_setIfInBounds,hrs];rfl)|rfl) (zm rfl) ?_;clear k;intro W k)|((with_reducible refine zf ?_);refine ala k Tryz.zeroValue127 ?_;clear k;intro b127 X W k))
      have HPer:=Lib.hid k.out.per;refine zt k 11 12 (by kernel_rfl) rfl ?_;clear k;intro W k;refine zq [(0,some 53,[11]),(1,some 54,[11]),(2,some 55,[11]),(3,some 56,[11]),(4,some 57,[11]),(5,some 58,[11]),(6,some 59,[11])] [?v30_0,?v30_1,?v30_2,?v30_3,?v30_4,?v30_5,?v30_6] 5 (by kernel_rfl) ⟨_,k.out⟩ ?l30 ?h30;case l30=>
       intro w' hSw;iterate 7
        refine lkw rfl rfl (by rfl) ?_ ?_
        ·first|((with_reducible refine yw ?_);first|exact hSw.l1 rfl rfl (by repeat constructor) (by first|with_reducible assumption|(simp only[Array.size_setIfInBounds,hrs];rfl)|rfl)|exact hSw.la rfl rfl .a0 (by first|with_reducible assumption|(simp only[Array.size_setIfInBounds,hrs];rfl)|rfl) (by rfl)|exact hSw.lp rfl rfl (by repeat constructor) (D:= #[_,_]) (by rfl) (by rfl) (by rfl))|(go_simp<;>with_reducible rfl)
        try simp only[Act.put,tS,t0,t1]
       trivial
      simp only[zw,zk,Act.put,tS,t0,t1];refine w1 7 4 (by kernel_rfl) rfl ?_;go_wp2_with fail;refine(qf _ y.Pi f0 g0 (1) _ W k.out.fact.Pi OKY.out.Pi (by have:=OKY.out.Pil;omega) k.out.lt).mono ?_;rintro e W1 ⟨v2,l2,rfl,hl1,hl2,hl3,hb⟩;have hv2:=hl1.one;replace k:=zj (k.out.call hb);clear hb;go_wp2_with fail;refine zd (yz ⟨_,k.out⟩) ?_;refine zq [(8,some 61,[9,10,11]),(9,some 62,[10,11]),(10,some 63,[11])] [?v31_8,?v31_9,?v31_10] 1 (by kernel_rfl) ⟨_,k.out⟩ ?l31 ?h31;case l31=>
       intro w' hSw;iterate 3
        refine lkw rfl rfl (by rfl) ?_ ?_
        ·go_simp<;>with_reducible rfl
        try simp only[Act.put,tS,t0,t1]
       trivial
      simp only[zw,zk,Act.put,tS,t0,t1];refine w1 11 0 (by kernel_rfl) rfl ?_;replace k:=zj (k.out.add hl1 (zb _ _ _));clear hl1;go_wp2_with((with_reducible refine zx ?_);refine yE k (E:=KC {y with vPi:=v2,Pi:=l2}) (G':=KSl {y with vPi:=v2,Pi:=l2}) rfl rfl rfl hv2 .a3 (by rfl) (by rfl) (zO _) (fun X W h=>{h.1 with Pi:=h.2}) ?_;clear k;intro W k);refine zd (zJ rfl) ?_;refine zv (by kernel_rfl) ?_ _;clear HPer;go_wp2_with fail
      go_roundw
      case rel=>exact⟨1,by omega,by go_num,zj ⟨{y with vPi:=v2,Pi:=l2},_,k.out.drop (n:=1),{OKY.out with Pi:=hl2,Pil:=Nat.le_trans hl3 OKY.out.Pil},⟨REL.out.Im,REL.out.Ou,REL.out.Is,REL.out.now⟩,hyP,hyg,hyw,hyt⟩⟩
      case measure=>simp[intOf]
     ·go_upto_region 11 with(first|((with_reducible refine zx ?_);refine soa k rfl rfl rfl .a0 (by first|with_reducible assumption|(simp only[Array.size_setIfInBounds,hrs];rfl)|rfl) (by first|with_reducible assumption|(simp only[Array.size_setIfInBounds,hrs];rfl)|rfl) (zm rfl) ?_;clear k;intro W k)|((with_reducible refine zf ?_);refine ala k Tryz.zeroValue127 ?_;clear k;intro b127 X W k))
      have HPer:=Lib.hid k.out.per;refine zt k 11 12 (by kernel_rfl) rfl ?_;clear k;intro W k;refine zq [(0,some 53,[11]),(1,some 54,[11]),(2,some 55,[11]),(3,some 56,[11]),(4,some 57,[11]),(5,some 58,[11]),(6,some 59,[11])] [?v32_0,?v32_1,?v32_2,?v32_3,?v32_4,?v32_5,?v32_6] 5 (by kernel_rfl) ⟨_,k.out⟩ ?l32 ?h32;case l32=>
       intro w' hSw;iterate 7
        refine lkw rfl rfl (by rfl) ?_ ?_
        ·first|((with_reducible refine yw ?_);first|exact hSw.l1 rfl rfl (by repeat constructor) (by first|with_reducible assumption|(simp only[Array.size_setIfInBounds,hrs];rfl)|rfl)|exact hSw.la rfl rfl .a0 (by first|with_reducible assumption|(simp only[Array.size_setIfInBounds,hrs];rfl)|rfl) (by rfl)|exact hSw.lp rfl rfl (by repeat constructor) (D:= #[_,_]) (by rfl) (by rfl) (by rfl))|(go_simp<;>with_reducible rfl)
        try simp only[Act.put,tS,t0,t1]
       trivial
      simp only[zw,zk,Act.put,tS,t0,t1];refine w1 7 4 (by kernel_rfl) rfl ?_;go_wp2_with fail;refine(qf _ y.Pi f1 g1 (1) _ W k.out.fact.Pi OKY.out.Pi (by have:=OKY.out.Pil;omega) k.out.lt).mono ?_;rintro e W1 ⟨v2,l2,rfl,hl1,hl2,hl3,hb⟩;have hv2:=hl1.one;replace k:=zj (k.out.call hb);clear hb;go_wp2_with fail;refine zd (yz ⟨_,k.out⟩) ?_;refine zq [(8,some 61,[9,10,11]),(9,some 62,[10,11]),(10,some 63,[11])] [?v33_8,?v33_9,?v33_10] 1 (by kernel_rfl) ⟨_,k.out⟩ ?l33 ?h33;case l33=>
       intro w' hSw;iterate 3
        refine lkw rfl rfl (by rfl) ?_ ?_
        ·go_simp<;>with_reducible rfl
        try simp only[Act.put,tS,t0,t1]
       trivial
      simp only[zw,zk,Act.put,tS,t0,t1];refine w1 11 0 (by kernel_rfl) rfl ?_;replace k:=zj (k.out.add hl1 (zb _ _ _));clear hl1;go_wp2_with((with_reducible refine zx ?_);refine yE k (E:=KC {y with vPi:=v2,Pi:=l2}) (G':=KSl {y with vPi:=v2,Pi:=l2}) rfl rfl rfl hv2 .a3 (by rfl) (by rfl) (zO _) (fun X W h=>{h.1 with Pi:=h.2}) ?_;clear k;intro W k);refine zd (zJ rfl) ?_;refine zv (by kernel_rfl) ?_ _;clear HPer;go_wp2_with fail
      go_roundw
      case rel=>exact⟨2,by omega,by go_num,zj ⟨{y with vPi:=v2,Pi:=l2},_,k.out.drop (n:=1),{OKY.out with Pi:=hl2,Pil:=Nat.le_trans hl3 OKY.out.Pil},⟨REL.out.Im,REL.out.Ou,REL.out.Is,REL.out.now⟩,hyP,hyg,hyw,hyt⟩⟩
      case measure=>simp[intOf]
     ·go_upto_region 11 with(first|((with_reducible refine zx ?_);refine soa k rfl rfl rfl .a0 (by first|with_reducible assumption|(simp only[Array.size_setIfInBounds,hrs];rfl)|rfl) (by first|with_reducible assumption|(simp only[Array.size_setIfInBounds,hrs];rfl)|rfl) (zm rfl) ?_;clear k;intro W k)|((with_reducible refine zf ?_);refine ala k Tryz.zeroValue127 ?_;clear k;intro b127 X W k))
      have HPer:=Lib.hid k.out.per;refine zt k 11 12 (by kernel_rfl) rfl ?_;clear k;intro W k;refine zq [(0,some 53,[11]),(1,some 54,[11]),(2,some 55,[11]),(3,some 56,[11]),(4,some 57,[11]),(5,some 58,[11]),(6,some 59,[11])] [?v34_0,?v34_1,?v34_2,?v34_3,?v34_4,?v34_5,?v34_6] 5 (by kernel_rfl) ⟨_,k.out⟩ ?l34 ?h34;case l34=>
       intro w' hSw;iterate 7
        refine lkw rfl rfl (by rfl) ?_ ?_
        ·first|((with_reducible refine yw ?_);first|exact hSw.l1 rfl rfl (by repeat constructor) (by first|with_reducible assumption|(simp only[Array.size_setIfInBounds,hrs];rfl)|rfl)|exact hSw.la rfl rfl .a0 (by first|with_reducible assumption|(simp only[Array.size_setIfInBounds,hrs];rfl)|rfl) (by rfl)|exact hSw.lp rfl rfl (by repeat constructor) (D:= #[_,_]) (by rfl) (by rfl) (by rfl))|(go_simp<;>with_reducible rfl)
        try simp only[Act.put,tS,t0,t1]
       trivial
      simp only[zw,zk,Act.put,tS,t0,t1];refine w1 7 4 (by kernel_rfl) rfl ?_;go_wp2_with fail;refine(qf _ y.Pi f2 g2 (1) _ W k.out.fact.Pi OKY.out.Pi (by have:=OKY.out.Pil;omega) k.out.lt).mono ?_;rintro e W1 ⟨v2,l2,rfl,hl1,hl2,hl3,hb⟩;have hv2:=hl1.one;replace k:=zj (k.out.call hb);clear hb;go_wp2_with fail;refine zd (yz ⟨_,k.out⟩) ?_;refine zq [(8,some 61,[9,10,11]),(9,some 62,[10,11]),(10,some 63,[11])] [?v35_8,?v35_9,?v35_10] 1 (by kernel_rfl) ⟨_,k.out⟩ ?l35 ?h35;case l35=>
       intro w' hSw;iterate 3
        refine lkw rfl rfl (by rfl) ?_ ?_
        ·go_simp<;>with_reducible rfl
        try simp only[Act.put,tS,t0,t1]
       trivial
      simp only[zw,zk,Act.put,tS,t0,t1];refine w1 11 0 (by kernel_rfl) rfl ?_;replace k:=zj (k.out.add hl1 (zb _ _ _));clear hl1;go_wp2_with((with_reducible refine zx ?_);refine yE k (E:=KC {y with vPi:=v2,Pi:=l2}) (G':=KSl {y with vPi:=v2,Pi:=l2}) rfl rfl rfl hv2 .a3 (by rfl) (by rfl) (zO _) (fun X W h=>{h.1 with Pi:=h.2}) ?_;clear k;intro W k);refine zd (zJ rfl) ?_;refine zv (by kernel_rfl) ?_ _;clear HPer;go_wp2_with fail
      go_roundw
      case rel=>exact⟨3,by omega,by go_num,zj ⟨{y with vPi:=v2,Pi:=l2},_,k.out.drop (n:=1),{OKY.out with Pi:=hl2,Pil:=Nat.le_trans hl3 OKY.out.Pil},⟨REL.out.Im,REL.out.Ou,REL.out.Is,REL.out.now⟩,hyP,hyg,hyw,hyt⟩⟩
      case measure=>simp[intOf]
     ·go_upto_region 11 with(first|((with_reducible refine zx ?_);refine soa k rfl rfl rfl .a0 (by first|with_reducible assumption|(simp only[Array.size_setIfInBounds,hrs];rfl)|rfl) (by first|with_reducible assumption|(simp only[Array.size_setIfInBounds,hrs];rfl)|rfl) (zm rfl) ?_;clear k;intro W k)|((with_reducible refine zf ?_);refine ala k Tryz.zeroValue127 ?_;clear k;intro b127 X W k))
      have HPer:=Lib.hid k.out.per;refine zt k 11 12 (by kernel_rfl) rfl ?_;clear k;intro W k;refine zq [(0,some 53,[11]),(1,some 54,[11]),(2,some 55,[11]),(3,some 56,[11]),(4,some 57,[11]),(5,some 58,[11]),(6,some 59,[11])] [?v36_0,?v36_1,?v36_2,?v36_3,?v36_4,?v36_5,?v36_6] 5 (by kernel_rfl) ⟨_,k.out⟩ ?l36 ?h36;case l36=>
       intro w' hSw;iterate 7
        refine lkw rfl rfl (by rfl) ?_ ?_
        ·first|((with_reducible refine yw ?_);first|exact hSw.l1 rfl rfl (by repeat constructor) (by first|with_reducible assumption|(simp only[Array.size_setIfInBounds,hrs];rfl)|rfl)|exact hSw.la rfl rfl .a0 (by first|with_reducible assumption|(simp only[Array.size_setIfInBounds,hrs];rfl)|rfl) (by rfl)|exact hSw.lp rfl rfl (by repeat constructor) (D:= #[_,_]) (by rfl) (by rfl) (by rfl))|(go_simp<;>with_reducible rfl)
        try simp only[Act.put,tS,t0,t1]
       trivial
      simp only[zw,zk,Act.put,tS,t0,t1];refine w1 7 4 (by kernel_rfl) rfl ?_;go_wp2_with fail;refine(qf _ y.Pi f3 g3 (1) _ W k.out.fact.Pi OKY.out.Pi (by have:=OKY.out.Pil;omega) k.out.lt).mono ?_;rintro e W1 ⟨v2,l2,rfl,hl1,hl2,hl3,hb⟩;have hv2:=hl1.one;replace k:=zj (k.out.call hb);clear hb;go_wp2_with fail;refine zd (yz ⟨_,k.out⟩) ?_;refine zq [(8,some 61,[9,10,11]),(9,some 62,[10,11]),(10,some 63,[11])] [?v37_8,?v37_9,?v37_10] 1 (by kernel_rfl) ⟨_,k.out⟩ ?l37 ?h37;case l37=>
       intro w' hSw;iterate 3
        refine lkw rfl rfl (by rfl) ?_ ?_
        ·go_simp<;>with_reducible rfl
        try simp only[Act.put,tS,t0,t1]
       trivial
      simp only[zw,zk,Act.put,tS,t0,t1];refine w1 11 0 (by kernel_rfl) rfl ?_;replace k:=zj (k.out.add hl1 (zb _ _ _));clear hl1;go_wp2_with((with_reducible refine zx ?_);refine yE k (E:=KC {y with vPi:=v2,Pi:=l2}) (G':=KSl {y with vPi:=v2,Pi:=l2}) rfl rfl rfl hv2 .a3 (by rfl) (by rfl) (zO _) (fun X W h=>{h.1 with Pi:=h.2}) ?_;clear k;intro W k);refine zd (zJ rfl) ?_;refine zv (by kernel_rfl) ?_ _;clear HPer;go_wp2_with fail
      go_roundw
      case rel=>exact⟨4,by omega,by go_num,zj ⟨{y with vPi:=v2,Pi:=l2},_,k.out.drop (n:=1),{OKY.out with Pi:=hl2,Pil:=Nat.le_trans hl3 OKY.out.Pil},⟨REL.out.Im,REL.out.Ou,REL.out.Is,REL.out.now⟩,hyP,hyg,hyw,hyt⟩⟩
      case measure=>simp[intOf]
     ·clear q1 q2 q3 q4
      have hyx:y.P=x.P:=hyP.trans hR2.out.2.1;have hy6:y.P.length<=1000000:=by have:=OKY.out.P.len;omega
      obtain⟨lP,hlP⟩: ∃lP,jV y.P r1=lP:=⟨_,rfl⟩;have hPO:POk (n+1) lP:=by rw[<-hlP,hyx];exact HPO.out
      have hLV:Hid (Liv x.P lP):=by rw[<-hlP,hyx];exact HLV.out
      have hPP:Hid (∀p∈xh x.P,p∈xh lP):=by rw[<-hlP,hyx];exact HPP.out
      go_upto_region 13 with fail
      have HPer:=Lib.hid k.out.per;refine zt k 20 25 (by kernel_rfl) rfl ?_;clear k;intro W k;refine zq [(0,some 65,[20])] [?v38_0] 24 (by kernel_rfl) ⟨_,k.out⟩ ?l38 ?h38;case l38=>
       intro w' hSw;refine lkw rfl rfl (by rfl) ?_ ?_
       ·go_simp<;>with_reducible rfl
       try simp only[Act.put,tS,t0,t1]
       trivial
      simp only[zw,zk,Act.put,tS,t0,t1];refine zU [(1,some 66,[])] [?v39_1] 23 (by kernel_rfl) (.inl ⟨_,k.out⟩) ?l39 ?h39;case l39=>
       intro w';refine lkw rfl rfl (by rfl) ?_ ?_
       ·go_simp<;>with_reducible rfl
       try simp only[Act.put,tS,t0,t1]
       trivial
      simp only[zw,zk,Act.put,tS,t0,t1];refine zq [(2,some 67,[20]),(3,some 68,[20]),(4,some 69,[20]),(5,some 70,[20]),(6,some 71,[20]),(7,some 72,[20]),(9,some 74,[10,11,12,13,20]),(10,some 75,[11,12,13,20]),(11,some 76,[12,13,20]),(12,some 77,[13,20]),(13,some 78,[20]),(14,some 79,[15,16,20]),(15,some 80,[16,20])] [?v40_2,?v40_3,?v40_4,?v40_5,?v40_6,?v40_7,?v40_9,?v40_10,?v40_11,?v40_12,?v40_13,?v40_14,?v40_15] 10 (by kernel_rfl) ⟨_,k.out⟩ ?l40 ?h40;case l40=>
       intro w' hSw;iterate 13
        refine lkw rfl rfl (by rfl) ?_ ?_
        ·first|((with_reducible refine yw ?_);first|exact hSw.l1 rfl rfl (by repeat constructor) (by first|with_reducible assumption|(simp only[Array.size_setIfInBounds,hrs];rfl)|rfl)|exact hSw.la rfl rfl (by repeat constructor) (by first|with_reducible assumption|(simp only[Array.size_setIfInBounds,hrs];rfl)|rfl) (by rfl)|exact hSw.lp rfl rfl .a2 (D:= #[_,_]) (by rfl) (by rfl) (by rfl))|(go_simp<;>with_reducible rfl)
        try simp only[Act.put,tS,t0,t1]
       trivial
      simp only[zw,zk,Act.put,tS,t0,t1];refine w1 8 9 (by kernel_rfl) rfl ?_;go_wp2_with fail;refine(vj _ y.P r1 _ _ k.out.fact.P OKY.out.P.ty HT.out (by have:=OKY.out.P.len;omega)).mono ?_;rw[hlP];rintro e W1 ⟨v1,rfl,hown,hb⟩;have hv1:=xu hown;have hf:=zV hown (fun q hq=>(hPO.ty q hq).size) k.out.lt;replace k:=zj (k.out.call hb);clear hown hb;go_wp2_with fail;refine zd (yz ⟨_,k.out⟩) ?_;refine w1 16 8 (by kernel_rfl) rfl ?_;go_wp2_with fail;refine(tadd_any _ y.T y.left z _ W1 k.out.fact.T OKY.out.T k.out.lt (by have:=OKY.out.Tl;omega)).mono ?_;rintro e W2 ⟨vt,lt,lft,rfl,ht1,ht2,ht3,hb⟩;have hvt:=ht1.one;replace hf:=(zb _ _ _).below hf hb;replace k:=zj (k.out.call hb);clear hb;go_wp2_with fail;refine zd (yz ⟨_,k.out⟩) ?_;refine zq [(17,some 82,[18,19,20]),(18,some 83,[19,20]),(19,some 84,[20])] [?v41_17,?v41_18,?v41_19] 5 (by kernel_rfl) ⟨_,k.out⟩ ?l41 ?h41;case l41=>
       intro w' hSw;iterate 3
        refine lkw rfl rfl (by rfl) ?_ ?_
        ·go_simp<;>with_reducible rfl
        try simp only[Act.put,tS,t0,t1]
       trivial
      simp only[zw,zk,Act.put,tS,t0,t1];refine w1 20 4 (by kernel_rfl) rfl ?_;replace k:=zj ((k.out.add hf (zb _ _ _)).add ht1 (zb _ _ _));clear hf ht1;go_wp2_with((with_reducible refine zx ?_);refine yE k (E:=KC {y with vP:=v1,P:=lP}) (G':=fun X W=>KSl {y with vP:=v1,P:=lP} X W/\Sl 1 vt lt X W) rfl rfl rfl hv1 .a2 (by rfl) (by rfl) ((zO _).and (zb _ _ _)) (fun X W h=>⟨{h.1.1 with P:=h.1.2},h.2⟩) ?_;clear k;intro W k);refine zd (zJ rfl) ?_;refine zU [(21,some 85,[]),(22,some 86,[]),(23,some 87,[])] [?v42_21,?v42_22,?v42_23] 1 (by kernel_rfl) (.inr (by kernel_rfl)) ?l42 ?h42;case l42=>
       intro w';iterate 3
        refine lkw rfl rfl (by rfl) ?_ ?_
        ·go_simp<;>with_reducible rfl
        try simp only[Act.put,tS,t0,t1]
       trivial
      simp only[zw,zk,Act.put,tS,t0,t1];refine w1 24 0 (by kernel_rfl) rfl ?_;go_wp2_with((with_reducible refine zx ?_);refine sopt k (E:=KC {y with vP:=v1,P:=lP,vT:=vt,left:=lft,T:=lt}) (G':=KSl {y with vP:=v1,P:=lP,vT:=vt,left:=lft,T:=lt}) rfl rfl rfl .a2 (by rfl) (by rfl) (yU hvt rfl) (by rfl) (zO _) (fun X W h=>{h.1 with T:=h.2}) ?_;clear k;intro W k);refine zd (qb (by kernel_rfl)) ?_;refine zv (by kernel_rfl) ?_ _;clear HPer;go_wp2_with((with_reducible refine zz ?_);refine ld1 k rfl rfl .a1 (by first|with_reducible assumption|(simp only[Array.size_setIfInBounds,hrs];rfl)|rfl) ?_);exact bodyPost_ret (xJ rfl rfl rfl) rfl (k.out.kpost (x':={y with vP:=v1,P:=lP,vT:=vt,left:=lft,T:=lt}) 2 rfl HB.out k.out.fact {OKY.out.mono (show n+1<=n+2 by omega) (Nat.le_refl _) (Nat.le_refl _) with P:=hPO.mono (by omega),T:=(fun q hq=>(ht2 q hq).elim (OKY.out.T q) (fun e=>e▸⟨z,rfl,hz1⟩)),Tl:=Nat.le_trans ht3 (Nat.succ_le_succ OKY.out.Tl)} ((hR2.out.1.trans REL.out).trans ⟨rfl,rfl,rfl,rfl⟩) ⟨z,0,rfl,by omega,by omega,.inl rfl,hLV.out,hPP.out,hyg.trans hR2.out.2.2.1,hyw.trans hR2.out.2.2.2.1,hyt.trans hR2.out.2.2.2.2⟩)
   ·go_wp2_with fail
    exact bodyPost_ret (xJ rfl rfl rfl) rfl (k.out.kpost 2 rfl HB.out k.out.fact.1 (OK.out.mono (by omega) (Nat.le_refl _) (Nat.le_refl _)) (KRel.refl x) ⟨0,1,rfl,by omega,by omega,.inr (.inl rfl),Liv.refl _,fun _ h=>h,rfl,rfl,rfl⟩)
   ·go_wp2_with fail
    exact bodyPost_ret (xJ rfl rfl rfl) rfl (k.out.kpost 2 rfl HB.out k.out.fact.1 (OK.out.mono (by omega) (Nat.le_refl _) (Nat.le_refl _)) (KRel.refl x) ⟨0,5,rfl,by omega,by omega,.inr (.inr rfl),Liv.refl _,fun _ h=>h,rfl,rfl,rfl⟩)
  ·go_wp2_with((with_reducible refine zf ?_);refine ala k Tryz.zeroValue50 ?_;clear k;intro b50 X W k)
   refine zd (yz ⟨_,k.out.drop (n:=1)⟩) ?_;refine w1 7 7 (by kernel_rfl) rfl ?_;go_wp2_with fail;refine(htake_any x.hsz z _ x.H _ W k.out.fact.H OK.out.H (by have:=OK.out.Hl;omega) k.out.lt OK.out.hsz (by omega) (by omega)).mono ?_;rintro e W1 ⟨vh,lh,ha,he,rfl,hh1,hh2,hh3,hhe,hb⟩;have hvh:=hh1.one;replace k:=zj ((k.out.call hb).add hh1 (zb _ _ _));clear hb hh1;go_wp2_with fail;refine zd (yz ⟨_,(k.out.turn And.left (zO _)).drop (n:=1)⟩) ?_;refine zq [(8,some 28,[13]),(9,some 37,[13])] [?v43_8,?v43_9] 5 (by kernel_rfl) ⟨_,(k.out.turn And.left (zO _)).drop (n:=1)⟩ ?l43 ?h43;case l43=>
    intro w' hSw;iterate 2
     refine lkw rfl rfl (by rfl) ?_ ?_
     ·go_simp<;>with_reducible rfl
     try simp only[Act.put,tS,t0,t1]
    trivial
   simp only[zw,zk,Act.put,tS,t0,t1];refine zU [(10,some 38,[]),(11,some 39,[])] [?v44_10,?v44_11] 3 (by kernel_rfl) (.inl ⟨_,(k.out.turn And.left (zO _)).drop (n:=1)⟩) ?l44 ?h44;case l44=>
    intro w';iterate 2
     refine lkw rfl rfl (by rfl) ?_ ?_
     ·go_simp<;>with_reducible rfl
     try simp only[Act.put,tS,t0,t1]
    trivial
   simp only[zw,zk,Act.put,tS,t0,t1];refine w1 13 2 (by kernel_rfl) rfl ?_;go_wp2_with((with_reducible refine zx ?_);refine soa k rfl rfl rfl .a0 rfl rfl (yU rfl hvh) ?_;clear k;intro W k);refine zd (zJ rfl) ?_;refine zU [(14,some 7,[]),(15,some 8,[])] [?v45_14,?v45_15] 0 (by kernel_rfl) (.inr (by kernel_rfl)) ?l45 ?h45;case l45=>
    intro w';iterate 2
     refine lkw rfl rfl (by rfl) ?_ ?_
     ·go_simp<;>with_reducible rfl
     try simp only[Act.put,tS,t0,t1]
    trivial
   simp only[zw,zk,Act.put,tS,t0,t1];refine zv (by kernel_rfl) ?_ _;clear HPer;replace k:Hid (St _ _ _ [(b50,#[.int .i64 x.hsz,vh],50),(_,r1,_),(_,KC x,_)] _ _ _):=k;rcases hhe with rfl|rfl|rfl
   ·go_upto_region 8 with(first|((with_reducible refine zx ?_);refine sopt k (E:=KC {x with vH:=vh,H:=lh}) (G':=KSl {x with vH:=vh,H:=lh}) rfl rfl rfl .a2 (by rfl) (by rfl) (yU rfl hvh) (by rfl) (zO _) (fun X W h=>{h.1 with H:=h.2}) ?_;clear k;intro W k)|((with_reducible refine zz ?_);refine lda k rfl rfl .a0 (by first|with_reducible assumption|(simp only[Array.size_setIfInBounds,hrs];rfl)|rfl) ?_))
    obtain⟨x2,hx2⟩: ∃x2:Kn,x2={x with vH:=vh,H:=lh}:=⟨_,rfl⟩;replace k:Hid (St _ _ _ [(b50,#[.int .i64 x.hsz,vh],50),(_,r1,_),(_,KC {x with vH:=vh,H:=lh},_)] (KSl {x with vH:=vh,H:=lh}) _ _):=k;rw[<-hx2] at k;have OK2:Hid (KOk (n+1) s m x2):=by
     have q:=OK.out.mono (show n<=n+1 by omega) (Nat.le_refl _) (Nat.le_refl _);rw[hx2];exact{q with H:=hh2,Hl:=Nat.le_trans hh3 (Nat.succ_le_succ OK.out.Hl)}
    have hR2:Hid (KRel x x2/\x2.P=x.P/\x2.gone=x.gone/\x2.want=x.want/\x2.Tr=x.Tr):=by rw[hx2];exact⟨⟨rfl,rfl,rfl,rfl⟩,rfl,rfl,rfl,rfl⟩
    clear hx2 hh2 hh3;go_wp2_with((with_reducible refine zz ?_);refine ldp k rfl rfl .a1 (D:= #[.int .i64 f0,.bool g0,.int .i64 f1,.bool g1,.int .i64 f2,.bool g2,.int .i64 f3,.bool g3]) eF fF ?_);clear eF;replace k:Hid (St _ _ _ [(b50,#[.int .i64 x.hsz,vh],50),(_,r1,_),(_,KC x2,_)] _ _ _):=k
    go_loopw [50] (fun i W=> ∃kk:Nat,kk<=4/\i= .int .i64 kk/\Hid (CntI bk (n+1) s m x2 X0 w [(b50,#[.int .i64 x.hsz,vh],50),(b,r1,132)] W)) (fun i _=>4-(intOf i).toNat)
    case atStart=>exact⟨0,by omega,rfl,zj ⟨x2,_,k.out,OK2.out,KRel.refl x2,rfl,rfl,rfl,rfl⟩⟩
    case round=>
     obtain⟨kk,hkk,rfl,hI⟩:=hrel;have HI:=hI;obtain⟨y,X,ky,OKy,hrel,hyP,hyg,hyw,hyt⟩:=hI.out;have OKY:=Lib.hid OKy;have REL:=Lib.hid hrel;clear k OKy hrel hI HI;have q0:=fun w=>(idx128 (f0:=f0) (f1:=f1) (f2:=f2) (f3:=f3) (g0:=g0) (g1:=g1) (g2:=g2) (g3:=g3) w);have q1:=fun w=>(q0 w).1;have q2:=fun w=>(q0 w).2.1;have q3:=fun w=>(q0 w).2.2.1;have q4:=fun w=>(q0 w).2.2.2;clear q0;have k:=zj ky;clear ky;replace k:Hid (St _ _ _ [(_,_,_),(_,r1,_),(_,KC y,_)] _ _ _):=k;have hk5:kk=0\/kk=1\/kk=2\/kk=3\/kk=4:=by omega
     rcases hk5 with rfl|rfl|rfl|rfl|rfl
     ·go_upto_region 11 with(first|((with_reducible refine zx ?_);refine soa k rfl rfl rfl .a0 (by first|with_reducible assumption|(simp only[Array.size_setIfInBounds,hrs];rfl)|rfl) (by first|with_reducible assumption|(simp only[Array.size_setIfInBounds,hrs];rfl)|rfl) (zm rfl) ?_;clear k;intro W k)|((with_reducible refine zf ?_);refine ala k Tryz.zeroValue127 ?_;clear k;intro b127 X W k))
      have HPer:=Lib.hid k.out.per;refine zt k 11 12 (by kernel_rfl) rfl ?_;clear k;intro W k;refine zq [(0,some 53,[11]),(1,some 54,[11]),(2,some 55,[11]),(3,some 56,[11]),(4,some 57,[11]),(5,some 58,[11]),(6,some 59,[11])] [?v46_0,?v46_1,?v46_2,?v46_3,?v46_4,?v46_5,?v46_6] 5 (by kernel_rfl) ⟨_,k.out⟩ ?l46 ?h46;case l46=>
       intro w' hSw;iterate 7
        refine lkw rfl rfl (by rfl) ?_ ?_
        ·first|((with_reducible refine yw ?_);first|exact hSw.l1 rfl rfl (by repeat constructor) (by first|with_reducible assumption|(simp only[Array.size_setIfInBounds,hrs];rfl)|rfl)|exact hSw.la rfl rfl .a0 (by first|with_reducible assumption|(simp only[Array.size_setIfInBounds,hrs];rfl)|rfl) (by rfl)|exact hSw.lp rfl rfl (by repeat constructor) (D:= #[_,_]) (by rfl) (by rfl) (by rfl))|(go_simp<;>with_reducible rfl)
        try simp only[Act.put,tS,t0,t1]
       trivial
      simp only[zw,zk,Act.put,tS,t0,t1];refine w1 7 4 (by kernel_rfl) rfl ?_;go_wp2_with fail;refine(qf _ y.Pi f0 g0 (1) _ W k.out.fact.Pi OKY.out.Pi (by have:=OKY.out.Pil;omega) k.out.lt).mono ?_;rintro e W1 ⟨v2,l2,rfl,hl1,hl2,hl3,hb⟩;have hv2:=hl1.one;replace k:=zj (k.out.call hb);clear hb;go_wp2_with fail;refine zd (yz ⟨_,k.out⟩) ?_;refine zq [(8,some 61,[9,10,11]),(9,some 62,[10,11]),(10,some 63,[11])] [?v47_8,?v47_9,?v47_10] 1 (by kernel_rfl) ⟨_,k.out⟩ ?l47 ?h47;case l47=>
       intro w' hSw;iterate 3
        refine lkw rfl rfl (by rfl) ?_ ?_
        ·go_simp<;>with_reducible rfl
        try simp only[Act.put,tS,t0,t1]
       trivial
      simp only[zw,zk,Act.put,tS,t0,t1];refine w1 11 0 (by kernel_rfl) rfl ?_;replace k:=zj (k.out.add hl1 (zb _ _ _));clear hl1;go_wp2_with((with_reducible refine zx ?_);refine yE k (E:=KC {y with vPi:=v2,Pi:=l2}) (G':=KSl {y with vPi:=v2,Pi:=l2}) rfl rfl rfl hv2 .a3 (by rfl) (by rfl) (zO _) (fun X W h=>{h.1 with Pi:=h.2}) ?_;clear k;intro W k);refine zd (zJ rfl) ?_;refine zv (by kernel_rfl) ?_ _;clear HPer;go_wp2_with fail
      go_roundw
      case rel=>exact⟨1,by omega,by go_num,zj ⟨{y with vPi:=v2,Pi:=l2},_,k.out.drop (n:=1),{OKY.out with Pi:=hl2,Pil:=Nat.le_trans hl3 OKY.out.Pil},⟨REL.out.Im,REL.out.Ou,REL.out.Is,REL.out.now⟩,hyP,hyg,hyw,hyt⟩⟩
      case measure=>simp[intOf]
     ·go_upto_region 11 with(first|((with_reducible refine zx ?_);refine soa k rfl rfl rfl .a0 (by first|with_reducible assumption|(simp only[Array.size_setIfInBounds,hrs];rfl)|rfl) (by first|with_reducible assumption|(simp only[Array.size_setIfInBounds,hrs];rfl)|rfl) (zm rfl) ?_;clear k;intro W k)|((with_reducible refine zf ?_);refine ala k Tryz.zeroValue127 ?_;clear k;intro b127 X W k))
      have HPer:=Lib.hid k.out.per;refine zt k 11 12 (by kernel_rfl) rfl ?_;clear k;intro W k;refine zq [(0,some 53,[11]),(1,some 54,[11]),(2,some 55,[11]),(3,some 56,[11]),(4,some 57,[11]),(5,some 58,[11]),(6,some 59,[11])] [?v48_0,?v48_1,?v48_2,?v48_3,?v48_4,?v48_5,?v48_6] 5 (by kernel_rfl) ⟨_,k.out⟩ ?l48 ?h48;case l48=>
       intro w' hSw;iterate 7
        refine lkw rfl rfl (by rfl) ?_ ?_
        ·first|((with_reducible refine yw ?_);first|exact hSw.l1 rfl rfl (by repeat constructor) (by first|with_reducible assumption|(simp only[Array.size_setIfInBounds,hrs];rfl)|rfl)|exact hSw.la rfl rfl .a0 (by first|with_reducible assumption|(simp only[Array.size_setIfInBounds,hrs];rfl)|rfl) (by rfl)|exact hSw.lp rfl rfl (by repeat constructor) (D:= #[_,_]) (by rfl) (by rfl) (by rfl))|(go_simp<;>with_reducible rfl)
        try simp only[Act.put,tS,t0,t1]
       trivial
      simp only[zw,zk,Act.put,tS,t0,t1];refine w1 7 4 (by kernel_rfl) rfl ?_;go_wp2_with fail;refine(qf _ y.Pi f1 g1 (1) _ W k.out.fact.Pi OKY.out.Pi (by have:=OKY.out.Pil;omega) k.out.lt).mono ?_;rintro e W1 ⟨v2,l2,rfl,hl1,hl2,hl3,hb⟩;have hv2:=hl1.one;replace k:=zj (k.out.call hb);clear hb;go_wp2_with fail;refine zd (yz ⟨_,k.out⟩) ?_;refine zq [(8,some 61,[9,10,11]),(9,some 62,[10,11]),(10,some 63,[11])] [?v49_8,?v49_9,?v49_10] 1 (by kernel_rfl) ⟨_,k.out⟩ ?l49 ?h49;case l49=>
       intro w' hSw;iterate 3
        refine lkw rfl rfl (by rfl) ?_ ?_
        ·go_simp<;>with_reducible rfl
        try simp only[Act.put,tS,t0,t1]
       trivial
      simp only[zw,zk,Act.put,tS,t0,t1];refine w1 11 0 (by kernel_rfl) rfl ?_;replace k:=zj (k.out.add hl1 (zb _ _ _));clear hl1;go_wp2_with((with_reducible refine zx ?_);refine yE k (E:=KC {y with vPi:=v2,Pi:=l2}) (G':=KSl {y with vPi:=v2,Pi:=l2}) rfl rfl rfl hv2 .a3 (by rfl) (by rfl) (zO _) (fun X W h=>{h.1 with Pi:=h.2}) ?_;clear k;intro W k);refine zd (zJ rfl) ?_;refine zv (by kernel_rfl) ?_ _;clear HPer;go_wp2_with fail
      go_roundw
      case rel=>exact⟨2,by omega,by go_num,zj ⟨{y with vPi:=v2,Pi:=l2},_,k.out.drop (n:=1),{OKY.out with Pi:=hl2,Pil:=Nat.le_trans hl3 OKY.out.Pil},⟨REL.out.Im,REL.out.Ou,REL.out.Is,REL.out.now⟩,hyP,hyg,hyw,hyt⟩⟩
      case measure=>simp[intOf]
     ·go_upto_region 11 with(first|((with_reducible refine zx ?_);refine soa k rfl rfl rfl .a0 (by first|with_reducible assumption|(simp only[Array.size_setIfInBounds,hrs];rfl)|rfl) (by first|with_reducible assumption|(simp only[Array.size_setIfInBounds,hrs];rfl)|rfl) (zm rfl) ?_;clear k;intro W k)|((with_reducible refine zf ?_);refine ala k Tryz.zeroValue127 ?_;clear k;intro b127 X W k))
      have HPer:=Lib.hid k.out.per;refine zt k 11 12 (by kernel_rfl) rfl ?_;clear k;intro W k;refine zq [(0,some 53,[11]),(1,some 54,[11]),(2,some 55,[11]),(3,some 56,[11]),(4,some 57,[11]),(5,some 58,[11]),(6,some 59,[11])] [?v50_0,?v50_1,?v50_2,?v50_3,?v50_4,?v50_5,?v50_6] 5 (by kernel_rfl) ⟨_,k.out⟩ ?l50 ?h50;case l50=>
       intro w' hSw;iterate 7
        refine lkw rfl rfl (by rfl) ?_ ?_
        ·first|((with_reducible refine yw ?_);first|exact hSw.l1 rfl rfl (by repeat constructor) (by first|with_reducible assumption|(simp only[Array.size_setIfInBounds,hrs];rfl)|rfl)|exact hSw.la rfl rfl .a0 (by first|with_reducible assumption|(simp only[Array.size_setIfInBounds,hrs];rfl)|rfl) (by rfl)|exact hSw.lp rfl rfl (by repeat constructor) (D:= #[_,_]) (by rfl) (by rfl) (by rfl))|(go_simp<;>with_reducible rfl)
        try simp only[Act.put,tS,t0,t1]
       trivial
      simp only[zw,zk,Act.put,tS,t0,t1];refine w1 7 4 (by kernel_rfl) rfl ?_;go_wp2_with fail;refine(qf _ y.Pi f2 g2 (1) _ W k.out.fact.Pi OKY.out.Pi (by have:=OKY.out.Pil;omega) k.out.lt).mono ?_;rintro e W1 ⟨v2,l2,rfl,hl1,hl2,hl3,hb⟩;have hv2:=hl1.one;replace k:=zj (k.out.call hb);clear hb;go_wp2_with fail;refine zd (yz ⟨_,k.out⟩) ?_;refine zq [(8,some 61,[9,10,11]),(9,some 62,[10,11]),(10,some 63,[11])] [?v51_8,?v51_9,?v51_10] 1 (by kernel_rfl) ⟨_,k.out⟩ ?l51 ?h51;case l51=>
       intro w' hSw;iterate 3
        refine lkw rfl rfl (by rfl) ?_ ?_
        ·go_simp<;>with_reducible rfl
        try simp only[Act.put,tS,t0,t1]
       trivial
      simp only[zw,zk,Act.put,tS,t0,t1];refine w1 11 0 (by kernel_rfl) rfl ?_;replace k:=zj (k.out.add hl1 (zb _ _ _));clear hl1;go_wp2_with((with_reducible refine zx ?_);refine yE k (E:=KC {y with vPi:=v2,Pi:=l2}) (G':=KSl {y with vPi:=v2,Pi:=l2}) rfl rfl rfl hv2 .a3 (by rfl) (by rfl) (zO _) (fun X W h=>{h.1 with Pi:=h.2}) ?_;clear k;intro W k);refine zd (zJ rfl) ?_;refine zv (by kernel_rfl) ?_ _;clear HPer;go_wp2_with fail
      go_roundw
      case rel=>exact⟨3,by omega,by go_num,zj ⟨{y with vPi:=v2,Pi:=l2},_,k.out.drop (n:=1),{OKY.out with Pi:=hl2,Pil:=Nat.le_trans hl3 OKY.out.Pil},⟨REL.out.Im,REL.out.Ou,REL.out.Is,REL.out.now⟩,hyP,hyg,hyw,hyt⟩⟩
      case measure=>simp[intOf]
     ·go_upto_region 11 with(first|((with_reducible refine zx ?_);refine soa k rfl rfl rfl .a0 (by first|with_reducible assumption|(simp only[Array.size_setIfInBounds,hrs];rfl)|rfl) (by first|with_reducible assumption|(simp only[Array.size_setIfInBounds,hrs];rfl)|rfl) (zm rfl) ?_;clear k;intro W k)|((with_reducible refine zf ?_);refine ala k Tryz.zeroValue127 ?_;clear k;intro b127 X W k))
      have HPer:=Lib.hid k.out.per;refine zt k 11 12 (by kernel_rfl) rfl ?_;clear k;intro W k;refine zq [(0,some 53,[11]),(1,some 54,[11]),(2,some 55,[11]),(3,some 56,[11]),(4,some 57,[11]),(5,some 58,[11]),(6,some 59,[11])] [?v52_0,?v52_1,?v52_2,?v52_3,?v52_4,?v52_5,?v52_6] 5 (by kernel_rfl) ⟨_,k.out⟩ ?l52 ?h52;case l52=>
       intro w' hSw;iterate 7
        refine lkw rfl rfl (by rfl) ?_ ?_
        ·first|((with_reducible refine yw ?_);first|exact hSw.l1 rfl rfl (by repeat constructor) (by first|with_reducible assumption|(simp only[Array.size_setIfInBounds,hrs];rfl)|rfl)|exact hSw.la rfl rfl .a0 (by first|with_reducible assumption|(simp only[Array.size_setIfInBounds,hrs];rfl)|rfl) (by rfl)|exact hSw.lp rfl rfl (by repeat constructor) (D:= #[_,_]) (by rfl) (by rfl) (by rfl))|(go_simp<;>with_reducible rfl)
        try simp only[Act.put,tS,t0,t1]
       trivial
      simp only[zw,zk,Act.put,tS,t0,t1];refine w1 7 4 (by kernel_rfl) rfl ?_;go_wp2_with fail;refine(qf _ y.Pi f3 g3 (1) _ W k.out.fact.Pi OKY.out.Pi (by have:=OKY.out.Pil;omega) k.out.lt).mono ?_;rintro e W1 ⟨v2,l2,rfl,hl1,hl2,hl3,hb⟩;have hv2:=hl1.one;replace k:=zj (k.out.call hb);clear hb;go_wp2_with fail;refine zd (yz ⟨_,k.out⟩) ?_;refine zq [(8,some 61,[9,10,11]),(9,some 62,[10,11]),(10,some 63,[11])] [?v53_8,?v53_9,?v53_10] 1 (by kernel_rfl) ⟨_,k.out⟩ ?l53 ?h53;case l53=>
       intro w' hSw;iterate 3
        refine lkw rfl rfl (by rfl) ?_ ?_
        ·go_simp<;>with_reducible rfl
        try simp only[Act.put,tS,t0,t1]
       trivial
      simp only[zw,zk,Act.put,tS,t0,t1];refine w1 11 0 (by kernel_rfl) rfl ?_;replace k:=zj (k.out.add hl1 (zb _ _ _));clear hl1;go_wp2_with((with_reducible refine zx ?_);refine yE k (E:=KC {y with vPi:=v2,Pi:=l2}) (G':=KSl {y with vPi:=v2,Pi:=l2}) rfl rfl rfl hv2 .a3 (by rfl) (by rfl) (zO _) (fun X W h=>{h.1 with Pi:=h.2}) ?_;clear k;intro W k);refine zd (zJ rfl) ?_;refine zv (by kernel_rfl) ?_ _;clear HPer;go_wp2_with fail
      go_roundw
      case rel=>exact⟨4,by omega,by go_num,zj ⟨{y with vPi:=v2,Pi:=l2},_,k.out.drop (n:=1),{OKY.out with Pi:=hl2,Pil:=Nat.le_trans hl3 OKY.out.Pil},⟨REL.out.Im,REL.out.Ou,REL.out.Is,REL.out.now⟩,hyP,hyg,hyw,hyt⟩⟩
      case measure=>simp[intOf]
     ·clear q1 q2 q3 q4
      have hyx:y.P=x.P:=hyP.trans hR2.out.2.1;have hy6:y.P.length<=1000000:=by have:=OKY.out.P.len;omega
      obtain⟨lP,hlP⟩: ∃lP,jV y.P r1=lP:=⟨_,rfl⟩;have hPO:POk (n+1) lP:=by rw[<-hlP,hyx];exact HPO.out
      have hLV:Hid (Liv x.P lP):=by rw[<-hlP,hyx];exact HLV.out
      have hPP:Hid (∀p∈xh x.P,p∈xh lP):=by rw[<-hlP,hyx];exact HPP.out
      go_upto_region 13 with fail
      have HPer:=Lib.hid k.out.per;refine zt k 20 25 (by kernel_rfl) rfl ?_;clear k;intro W k;refine zq [(0,some 65,[20])] [?v54_0] 24 (by kernel_rfl) ⟨_,k.out⟩ ?l54 ?h54;case l54=>
       intro w' hSw;refine lkw rfl rfl (by rfl) ?_ ?_
       ·go_simp<;>with_reducible rfl
       try simp only[Act.put,tS,t0,t1]
       trivial
      simp only[zw,zk,Act.put,tS,t0,t1];refine zU [(1,some 66,[])] [?v55_1] 23 (by kernel_rfl) (.inl ⟨_,k.out⟩) ?l55 ?h55;case l55=>
       intro w';refine lkw rfl rfl (by rfl) ?_ ?_
       ·go_simp<;>with_reducible rfl
       try simp only[Act.put,tS,t0,t1]
       trivial
      simp only[zw,zk,Act.put,tS,t0,t1];refine zq [(2,some 67,[20]),(3,some 68,[20]),(4,some 69,[20]),(5,some 70,[20]),(6,some 71,[20]),(7,some 72,[20]),(9,some 74,[10,11,12,13,20]),(10,some 75,[11,12,13,20]),(11,some 76,[12,13,20]),(12,some 77,[13,20]),(13,some 78,[20]),(14,some 79,[15,16,20]),(15,some 80,[16,20])] [?v56_2,?v56_3,?v56_4,?v56_5,?v56_6,?v56_7,?v56_9,?v56_10,?v56_11,?v56_12,?v56_13,?v56_14,?v56_15] 10 (by kernel_rfl) ⟨_,k.out⟩ ?l56 ?h56;case l56=>
       intro w' hSw;iterate 13
        refine lkw rfl rfl (by rfl) ?_ ?_
        ·first|((with_reducible refine yw ?_);first|exact hSw.l1 rfl rfl (by repeat constructor) (by first|with_reducible assumption|(simp only[Array.size_setIfInBounds,hrs];rfl)|rfl)|exact hSw.la rfl rfl (by repeat constructor) (by first|with_reducible assumption|(simp only[Array.size_setIfInBounds,hrs];rfl)|rfl) (by rfl)|exact hSw.lp rfl rfl .a2 (D:= #[_,_]) (by rfl) (by rfl) (by rfl))|(go_simp<;>with_reducible rfl)
        try simp only[Act.put,tS,t0,t1]
       trivial
      simp only[zw,zk,Act.put,tS,t0,t1];refine w1 8 9 (by kernel_rfl) rfl ?_;go_wp2_with fail;refine(vj _ y.P r1 _ _ k.out.fact.P OKY.out.P.ty HT.out (by have:=OKY.out.P.len;omega)).mono ?_;rw[hlP];rintro e W1 ⟨v1,rfl,hown,hb⟩;have hv1:=xu hown;have hf:=zV hown (fun q hq=>(hPO.ty q hq).size) k.out.lt;replace k:=zj (k.out.call hb);clear hown hb;go_wp2_with fail;refine zd (yz ⟨_,k.out⟩) ?_;refine w1 16 8 (by kernel_rfl) rfl ?_;go_wp2_with fail;refine(tadd_any _ y.T y.left z _ W1 k.out.fact.T OKY.out.T k.out.lt (by have:=OKY.out.Tl;omega)).mono ?_;rintro e W2 ⟨vt,lt,lft,rfl,ht1,ht2,ht3,hb⟩;have hvt:=ht1.one;replace hf:=(zb _ _ _).below hf hb;replace k:=zj (k.out.call hb);clear hb;go_wp2_with fail;refine zd (yz ⟨_,k.out⟩) ?_;refine zq [(17,some 82,[18,19,20]),(18,some 83,[19,20]),(19,some 84,[20])] [?v57_17,?v57_18,?v57_19] 5 (by kernel_rfl) ⟨_,k.out⟩ ?l57 ?h57;case l57=>
       intro w' hSw;iterate 3
        refine lkw rfl rfl (by rfl) ?_ ?_
        ·go_simp<;>with_reducible rfl
        try simp only[Act.put,tS,t0,t1]
       trivial
      simp only[zw,zk,Act.put,tS,t0,t1];refine w1 20 4 (by kernel_rfl) rfl ?_;replace k:=zj ((k.out.add hf (zb _ _ _)).add ht1 (zb _ _ _));clear hf ht1;go_wp2_with((with_reducible refine zx ?_);refine yE k (E:=KC {y with vP:=v1,P:=lP}) (G':=fun X W=>KSl {y with vP:=v1,P:=lP} X W/\Sl 1 vt lt X W) rfl rfl rfl hv1 .a2 (by rfl) (by rfl) ((zO _).and (zb _ _ _)) (fun X W h=>⟨{h.1.1 with P:=h.1.2},h.2⟩) ?_;clear k;intro W k);refine zd (zJ rfl) ?_;refine zU [(21,some 85,[]),(22,some 86,[]),(23,some 87,[])] [?v58_21,?v58_22,?v58_23] 1 (by kernel_rfl) (.inr (by kernel_rfl)) ?l58 ?h58;case l58=>
       intro w';iterate 3
        refine lkw rfl rfl (by rfl) ?_ ?_
        ·go_simp<;>with_reducible rfl
        try simp only[Act.put,tS,t0,t1]
       trivial
      simp only[zw,zk,Act.put,tS,t0,t1];refine w1 24 0 (by kernel_rfl) rfl ?_;go_wp2_with((with_reducible refine zx ?_);refine sopt k (E:=KC {y with vP:=v1,P:=lP,vT:=vt,left:=lft,T:=lt}) (G':=KSl {y with vP:=v1,P:=lP,vT:=vt,left:=lft,T:=lt}) rfl rfl rfl .a2 (by rfl) (by rfl) (yU hvt rfl) (by rfl) (zO _) (fun X W h=>{h.1 with T:=h.2}) ?_;clear k;intro W k);refine zd (qb (by kernel_rfl)) ?_;refine zv (by kernel_rfl) ?_ _;clear HPer;go_wp2_with((with_reducible refine zz ?_);refine ld1 k rfl rfl .a1 (by first|with_reducible assumption|(simp only[Array.size_setIfInBounds,hrs];rfl)|rfl) ?_);exact bodyPost_ret (xJ rfl rfl rfl) rfl (k.out.kpost (x':={y with vP:=v1,P:=lP,vT:=vt,left:=lft,T:=lt}) 2 rfl HB.out k.out.fact {OKY.out.mono (show n+1<=n+2 by omega) (Nat.le_refl _) (Nat.le_refl _) with P:=hPO.mono (by omega),T:=(fun q hq=>(ht2 q hq).elim (OKY.out.T q) (fun e=>e▸⟨z,rfl,hz1⟩)),Tl:=Nat.le_trans ht3 (Nat.succ_le_succ OKY.out.Tl)} ((hR2.out.1.trans REL.out).trans ⟨rfl,rfl,rfl,rfl⟩) ⟨z,0,rfl,by omega,by omega,.inl rfl,hLV.out,hPP.out,hyg.trans hR2.out.2.2.1,hyw.trans hR2.out.2.2.2.1,hyt.trans hR2.out.2.2.2.2⟩)
   ·go_wp2_with fail
    exact bodyPost_ret (xJ rfl rfl rfl) rfl (k.out.kpost 2 rfl HB.out k.out.fact.1 (OK.out.mono (by omega) (Nat.le_refl _) (Nat.le_refl _)) (KRel.refl x) ⟨0,1,rfl,by omega,by omega,.inr (.inl rfl),Liv.refl _,fun _ h=>h,rfl,rfl,rfl⟩)
   ·go_wp2_with fail
    exact bodyPost_ret (xJ rfl rfl rfl) rfl (k.out.kpost 2 rfl HB.out k.out.fact.1 (OK.out.mono (by omega) (Nat.le_refl _) (Nat.le_refl _)) (KRel.refl x) ⟨0,5,rfl,by omega,by omega,.inr (.inr rfl),Liv.refl _,fun _ h=>h,rfl,rfl,rfl⟩)
end Go.Proofs.YtaccidkgnkmagaaGreatDoor.Top
