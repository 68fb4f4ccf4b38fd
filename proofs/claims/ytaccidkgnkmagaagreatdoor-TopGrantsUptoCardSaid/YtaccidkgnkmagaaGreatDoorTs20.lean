/-
  Walks and laws of the whole machine: Kern17, Kern18, Kern19. Conditions: each theorem names its own.
-/
import Derived.Test.YtaccidkgnkmagaaGreatDoorTs19
import Derived.Test.YtaccidkgnkmagaaGreatDoorTu
set_option maxRecDepth 16000
set_option maxHeartbeats 12800000
set_option linter.unusedVariables false
set_option linter.unusedSimpArgs false
namespace Go.Proofs.YtaccidkgnkmagaaGreatDoor.Top
open Go.RowKit
theorem call_of{r:Array Value}(h:Ty yu r): ∃N A B C:Int,qk N A B C/\(r.toList.drop 22).take 4=(#[.int .u32 N,.int .u32 A,.int .u32 B,.int .u32 C]:Array Value).toList/\Nat.ble (22+4) r.size=true:=by
 have h4:Ty kCall (r.extract 22 (22+4)):=h.part 22 4 (by decide);have e:(r.toList.drop 22).take 4=(r.extract 22 (22+4)).toList:=by simp
 rw[e];generalize r.extract 22 (22+4)=q at h4;obtain⟨l⟩:=q;have h0:TyL kCall l:=h4;unfold kCall at h0;obtain⟨_,l0,rfl,⟨a,rfl,ha⟩,h1⟩:=yq h0;obtain⟨_,l1,rfl,⟨b,rfl,hb⟩,h2⟩:=yq h1;obtain⟨_,l2,rfl,⟨c,rfl,hc⟩,h3⟩:=yq h2;obtain⟨_,l3,rfl,⟨d,rfl,hd⟩,h5⟩:=yq h3;obtain rfl:=gE h5;exact⟨a,b,c,d,⟨ha,hb,hc,hd⟩,rfl,by rw[h.size];rfl⟩
def DueI(bk n s m:Nat)(x:Kn)(X0:Nat->Prop)(w:World)(v:Value)(l:List (Array Value))(W:World):Prop:=
 ∃(y:Kn) (X:Nat->Prop),St (fun k=>k=bk) X0 w [(bk,KC y,116)] (fun X W=>KSl y X W/\Sl 1 v l X W) X W/\KOk n s m y/\KRel x y/\y.gone=x.gone/\y.want=x.want
def TryI(bk n s m:Nat)(x:Kn)(X0:Nat->Prop)(w:World)(v:Value)(l:List (Array Value))(W:World):Prop:=
 ∃(y:Kn) (X:Nat->Prop),St (fun k=>k=bk) X0 w [(bk,KC y,116)] (fun X W=>KSl y X W/\Sl 26 v l X W) X W/\KOk n s m y/\KRel x y/\y.gone=x.gone/\y.want=x.want/\Liv l y.P
theorem wakes_any(bk n s m:Nat)(x:Kn)(X0:Nat->Prop)(w:World)(h:KPre bk n s m x X0 w)(hnn:n+2*s+20<=1000000)(hmm:m+6<=1000000):
  Calls Tryz.prog 69 #[.pointer (some ⟨bk,0,none⟩)] w (qX bk (n+2*s+18) s (m+6) x X0 w (fun e x'=>e= .returned (.tuple #[])/\x'.gone=x.gone/\x'.want=x.want)):=by
 have k:=zj h.begin;have OK:=Lib.hid h.ok;have HB:=Lib.hid h.blk;have hn:=h.hn;have hs:=h.hs;have hm:=h.hm;clear h;go_enter Tryz.func69,Tryz.ntmps69
 go_upto_region 0 with fail
 have HPer:=Lib.hid k.out.per;refine zt k 16 16 (by kernel_rfl) rfl ?_;clear k;intro W k;refine zq [(0,some 11,[]),(1,some 12,[]),(2,some 13,[]),(3,some 14,[]),(4,some 15,[]),(5,some 16,[]),(6,some 17,[]),(7,some 18,[]),(8,some 19,[]),(9,some 20,[])] [?v3_0,?v3_1,?v3_2,?v3_3,?v3_4,?v3_5,?v3_6,?v3_7,?v3_8,?v3_9] 6 (by kernel_rfl) ⟨_,k.out⟩ ?l3 ?h3;case l3=>
  intro w' hSw;iterate 10
   refine lkw rfl rfl (by rfl) ?_ ?_
   ·first|((with_reducible refine yw ?_);first|exact hSw.l1 rfl rfl .a0 (by rfl))|(go_simp<;>with_reducible rfl)
   try simp only[Act.put,tS,t0,t1]
  trivial
 simp only[zw,zk,Act.put,tS,t0,t1];refine w1 10 5 (by kernel_rfl) rfl ?_;go_wp2_with fail;refine(sdue_any _ x.S x.now _ _ k.out.fact.S OK.out.S (by have:=OK.out.Sl;omega) k.out.lt).mono ?_;rintro e W1 ⟨v1,v2,l1,l2,rfl,hs1,hl1,hn1,hs2,hl2,hn2,hb⟩;have hv1:=hs1.one;have hv2:=hs2.one;replace k:=zj (k.out.call hb);clear hb;go_wp2_with fail;refine zd (yz ⟨_,k.out⟩) ?_;refine zq [(11,some 10,[]),(12,some 22,[]),(13,some 23,[]),(14,some 2,[]),(15,some 3,[])] [?v4_11,?v4_12,?v4_13,?v4_14,?v4_15] 0 (by kernel_rfl) ⟨_,k.out⟩ ?l4 ?h4;case l4=>
  intro w' hSw;iterate 5
   refine lkw rfl rfl (by rfl) ?_ ?_
   ·go_simp<;>with_reducible rfl
   try simp only[Act.put,tS,t0,t1]
  trivial
 simp only[zw,zk,Act.put,tS,t0,t1];refine zv (by kernel_rfl) ?_ _;clear HPer;replace k:=zj ((k.out.add hs1 (zb _ _ _)).add hs2 (zb _ _ _));clear hs1 hs2
 go_upto_region 2 with(first|((with_reducible refine zx ?_);refine yE k (E:=KC {x with vS:=v2,S:=l2}) (G':=fun X W=>KSl {x with vS:=v2,S:=l2} X W/\Sl 1 v1 l1 X W) rfl rfl rfl hv2 .a0 (by rfl) (by rfl) ((zO _).and (zb _ _ _)) (fun X W h=>⟨{h.1.1 with S:=h.2},h.1.2⟩) ?_;clear k;intro W k)|fail)
 obtain⟨x1,hx1⟩: ∃x1:Kn,x1={x with vS:=v2,S:=l2}:=⟨_,rfl⟩;replace k:Hid (St _ _ _ [(_,KC {x with vS:=v2,S:=l2},_)] (fun X W=>KSl {x with vS:=v2,S:=l2} X W/\Sl 1 v1 l1 X W) _ _):=k;have OK1:Hid (KOk n s m {x with vS:=v2,S:=l2}):={OK.out with S:=(fun q hq=>OK.out.S q (hl2 q hq)),Sl:=Nat.le_trans hn2 OK.out.Sl};rw[<-hx1] at k OK1;have REL1:Hid (KRel x x1/\x1.gone=x.gone/\x1.want=x.want):=by rw[hx1];exact⟨⟨rfl,rfl,rfl,rfl⟩,rfl,rfl⟩
 have hls:l1.length<=s:=Nat.le_trans hn1 OK.out.Sl;have HL1:=Lib.hid hl1;clear hx1 hl1 hl2 hn1 hn2;obtain⟨Ad,cd,eD,_,_⟩:=k.out.fact.2.len;subst eD;go_wp2_with fail
 go_loopw [31] (fun i W=> ∃kk:Nat,kk<=l1.length/\i= .int .i64 kk/\Hid (DueI bk (n+2*kk) s m x X0 w (.slice Ad l1.length cd) l1 W)) (fun i _=>l1.length-(intOf i).toNat)
 case atStart=>exact⟨0,Nat.zero_le _,rfl,zj ⟨x1,_,k.out,OK1.out,REL1.out.1,REL1.out.2.1,REL1.out.2.2⟩⟩
 case round=>
  obtain⟨kk,hkk,rfl,hI⟩:=hrel;obtain⟨y,X,ky,OKy,hrel,hyg,hyw⟩:=hI.out;have OKY:=Lib.hid OKy;have REL:=Lib.hid hrel;have HYG:=Lib.hid hyg;have HYW:=Lib.hid hyw;clear k OKy hrel hI hyg hyw;have k:=zj ky;clear ky;by_cases hlt:kk<l1.length
  ·obtain⟨r,hr⟩: ∃r,l1[kk]? =some r:=⟨_,List.getElem?_eq_getElem hlt⟩
   obtain⟨pid,rfl⟩:=HL1.out r (List.mem_of_getElem? hr);obtain⟨bd,od,eA,_⟩:=k.out.fact.2.row hr (by decide);have HD:=zj k.out.fact.2;have HRW:=Lib.hid hr;have HEA:=Lib.hid eA;subst eA;clear hr HEA;have hki:(kk:Int)<l1.length:=by omega
   go_upto_region 5 with(first|((with_reducible refine zz ?_);refine qx rfl rfl HD.out HRW.out rfl ⟨_,rfl,rfl⟩ (Tryz.isAgg3 _) ?_)|fail)
   clear HD;go_wp2_with((with_reducible refine zz ?_);refine ld1 k rfl rfl .a0 (by rfl) ?_);refine(jk _ y.P pid _ _ k.out.fact.1.P OKY.out.P.ty).mono ?_;rintro e W1 ⟨r2,b2,rfl,hr2,hg1,hg2,hb⟩;have hrs2:r2.size=26:=hr2.size;have hro2:=hr2.one;replace k:=zj (k.out.call hb);clear hb;have e2:r2.toList[2]? =some (.int .i64 (qV r2)):=by rw[Array.getElem?_toList];exact xq hr2 2 rfl
   obtain⟨N,A,B,C,hc,eW,fW⟩:=call_of hr2;have HC:=Lib.hid hc;have HR2:=Lib.hid hr2;cases b2 with
   |false=>
    clear hg1 hg2 eW fW hc hr2;go_wp2_with(first|((with_reducible refine zp ?_);first|go_big_skip)|((with_reducible refine zx ?_);refine soa k rfl rfl rfl .a0 (by with_reducible assumption) (by rfl) (by assumption) ?_;clear k;intro W k)|((with_reducible refine zf ?_);refine ala k Tryz.zeroValue132 ?_;clear k;intro b132 X W k))
    go_roundw
    case rel=>exact⟨kk+1,by omega,by go_num,zj ⟨y,_,k.out.drop (n:=1),OKY.out.mono (by omega) (Nat.le_refl _) (Nat.le_refl _),REL.out,HYG.out,HYW.out⟩⟩
    case measure=>simp[intOf];omega
   |true=>
    obtain⟨hm2,hq2⟩:=hg1 rfl;have HM2:=Lib.hid hm2;have HQ2:=Lib.hid hq2;clear hg1 hg2 hm2 hq2 hc hr2;by_cases hst:qV r2=3
    ·rw[hst] at e2
     go_wp2_with(first|((with_reducible refine zp ?_);first|refine zg rfl rfl rfl (by with_reducible rfl) ?_)|((with_reducible refine zz ?_);first|(refine ldp k rfl rfl .a0 (D:= #[.int .u32 N,.int .u32 A,.int .u32 B,.int .u32 C]) eW fW ?_)|(refine ld1 k rfl rfl .a0 (by with_reducible assumption) ?_)|(refine lda k rfl rfl .a0 (by with_reducible assumption) ?_))|((with_reducible refine zx ?_);refine soa k rfl rfl rfl .a0 (by with_reducible assumption) (by rfl) (by assumption) ?_;clear k;intro W k)|((with_reducible refine zf ?_);refine ala k Tryz.zeroValue132 ?_;clear k;intro b132 X W k));refine(yV bk (n+2*kk) s m y _ _ ⟨k.out.blk (i:=1) rfl,(k.out.box (i:=1) rfl).1,k.out.lt,k.out.fact.1,OKY.out,(by omega),(by omega),(by omega)⟩ r2 HR2.out (xk HM2.out) (OKY.out.P.par r2 HM2.out) N A B C 0 0 HC.out (by omega) (by omega)).mono ?_;rintro e W1 ⟨y2,⟨rfl,hp2,hLv2,hgo2,hwa2⟩,hok2,hsl2,hrel2,hb⟩;replace k:=zj (k.out.kcallG (zb _ _ _) (i:=1) rfl hb hsl2);have OK2:=Lib.hid hok2;have REL2:=Lib.hid hrel2;have HGW:Hid (y2.gone=y.gone/\y2.want=y.want):=⟨hgo2,hwa2⟩;clear hb hsl2 hok2 hrel2 hgo2 hwa2 hp2 hLv2 eW fW;replace k:Hid (St _ _ _ [(_,r2,_),(_,KC y2,_)] (fun X W=>KSl y2 X W/\Sl 1 (.slice (some ⟨bd,od,none⟩) l1.length cd) l1 X W) _ _):=k;have hp1:1<=pid:=by rw[<-HQ2.out];exact(OKY.out.P.pid r2 HM2.out).1
     go_wp2_with((with_reducible refine zz ?_);refine ldp k rfl rfl .a1 (D:= #[_,_]) (by rfl) (by rfl) ?_);refine(tadd_any _ y2.T y2.left pid _ _ k.out.fact.1.T OK2.out.T k.out.lt (by have:=OK2.out.Tl;omega)).mono ?_;rintro e W3 ⟨vt,lt,lft,rfl,ht1,ht2,ht3,hb⟩;have hvt:=ht1.one;replace k:=zj ((k.out.call hb).add ht1 (zb _ _ _));clear hb ht1;go_wp2_with(first|((with_reducible refine zx ?_);refine sopt k (E:=KC {y2 with vT:=vt,left:=lft,T:=lt}) (G':=fun X W=>KSl {y2 with vT:=vt,left:=lft,T:=lt} X W/\Sl 1 (.slice (some ⟨bd,od,none⟩) l1.length cd) l1 X W) rfl rfl rfl .a1 (by rfl) (by rfl) (yU hvt rfl) (by rfl) ((zO _).and (zb _ _ _)) (fun X W h=>⟨{h.1.1 with T:=h.2},h.1.2⟩) ?_;clear k;intro W k)|fail)
     go_roundw
     case rel=>exact⟨kk+1,by omega,by go_num,zj ⟨{y2 with vT:=vt,left:=lft,T:=lt},_,k.out.drop (n:=1),{OK2.out.mono (show n+2*kk+1<=n+2*(kk+1) by omega) (Nat.le_refl _) (Nat.le_refl _) with T:=(fun q hq=>(ht2 q hq).elim (OK2.out.T q) (fun e=>e▸⟨pid,rfl,hp1⟩)),Tl:=Nat.le_trans ht3 (by have:=OK2.out.Tl;omega)},(REL.out.trans REL2.out).trans ⟨rfl,rfl,rfl,rfl⟩,HGW.out.1.trans HYG.out,HGW.out.2.trans HYW.out⟩⟩
     case measure=>simp[intOf];omega
    ·have d3:(qV r2==3)=false:=by rw[beq_eq_false_iff_ne];exact hst
     have n3: ¬(qV r2=3):=hst;clear eW fW;go_wp2_with(first|((with_reducible refine zp ?_);first|refine zg rfl rfl rfl (by with_reducible rfl) ?_)|((with_reducible refine zz ?_);refine ld1 k rfl rfl .a0 (by with_reducible assumption) ?_)|((with_reducible refine zx ?_);refine soa k rfl rfl rfl .a0 (by with_reducible assumption) (by rfl) (by assumption) ?_;clear k;intro W k)|((with_reducible refine zf ?_);refine ala k Tryz.zeroValue132 ?_;clear k;intro b132 X W k))
     go_roundw
     case rel=>exact⟨kk+1,by omega,by go_num,zj ⟨y,_,k.out.drop (n:=1),OKY.out.mono (by omega) (Nat.le_refl _) (Nat.le_refl _),REL.out,HYG.out,HYW.out⟩⟩
     case measure=>simp[intOf];omega
  ·have hki:(l1.length:Int)<=kk:=by omega
   obtain rfl:kk=l1.length:=by omega
   have hn6:n+2*l1.length<=n+2*s:=by omega
   have OKZ:=Lib.hid (OKY.out.mono hn6 (Nat.le_refl s) (Nat.le_refl m));clear OKY;replace k:=zj (k.out.turn And.left (zO y));obtain⟨Ap,cp,eP,_,_⟩:=k.out.fact.P.len;have hpl:=OKZ.out.P.len;have hsP:=k.out.fact.P;rw[eP] at hsP;replace k:=zj (k.out.add hsP (zb _ _ _));clear hsP;go_wp2_with((with_reducible refine zz ?_);refine ld1 k rfl rfl .a0 (by rfl) ?_);clear eP
   go_loopw [74] (fun i W=> ∃kk:Nat,kk<=y.P.length/\i= .int .i64 kk/\Hid (TryI bk (n+2*s+3*kk) s (m+kk) x X0 w (.slice Ap y.P.length cp) y.P W)) (fun i _=>y.P.length-(intOf i).toNat)
   case atStart=>exact⟨0,Nat.zero_le _,rfl,zj ⟨y,_,k.out,OKZ.out,REL.out,HYG.out,HYW.out,Liv.refl _⟩⟩
   case round=>
    obtain⟨kk,hkk,rfl,hI⟩:=hrel;obtain⟨z,X,kz,OKy,hrel,hyg,hyw,hLiv⟩:=hI.out;have OKY:=Lib.hid OKy;have REL2:=Lib.hid hrel;have HZG:=Lib.hid hyg;have HZW:=Lib.hid hyw;have HLV:=Lib.hid hLiv;clear k OKy hrel hI hyg hyw hLiv;have k:=zj kz;clear kz;by_cases hlt:kk<y.P.length
    ·obtain⟨r,hr⟩: ∃r,y.P[kk]? =some r:=⟨_,List.getElem?_eq_getElem hlt⟩
     have hrT:=OKZ.out.P.ty r (List.mem_of_getElem? hr);obtain⟨bd,od,eA,_⟩:=k.out.fact.2.row hr (by decide);have HD:=zj k.out.fact.2;have HRW:=Lib.hid hr;have HEA:=Lib.hid eA;subst eA;clear hr HEA;have hki:(kk:Int)<y.P.length:=by omega
     have hrs:r.size=26:=hrT.size;have hro:=hrT.one;have er0:r.toList[0]? =some (.int .i64 (zX r)):=by rw[Array.getElem?_toList];exact xq hrT 0 rfl
     have e2:r.toList[2]? =some (.int .i64 (qV r)):=by rw[Array.getElem?_toList];exact xq hrT 2 rfl
     obtain⟨N,A,B,C,hc,eW,fW⟩:=call_of hrT;have HC:=Lib.hid hc;have HRT:=Lib.hid hrT;clear hc hrT
     go_upto_region 13 with(first|((with_reducible refine zz ?_);refine xV rfl rfl HD.out HRW.out (by decide) rfl ⟨_,rfl,rfl⟩ (Tryz.isAgg132 _) (Tryz.sizeOf132 _) ?_)|(first|((with_reducible refine zx ?_);refine soa k rfl rfl rfl .a0 (by with_reducible assumption) (by rfl) (by assumption) ?_;clear k;intro W k)|((with_reducible refine zf ?_);refine ala k Tryz.zeroValue132 ?_;clear k;intro b132 X W k)))
     clear HD;by_cases hst:qV r=2
     ·have hlive:=HLV.out r (List.mem_of_getElem? HRW.out) (by rw[hst];decide)
      obtain⟨r',hr'1,hr'2,_⟩:=hlive;have HIN:Hid (zX r∈xh z.P):=by rw[<-hr'2];exact xk hr'1
      have hp1:1<=zX r:=(OKZ.out.P.pid r (List.mem_of_getElem? HRW.out)).1;rw[hst] at e2;clear hr'1 hr'2 hst;go_wp2_with((with_reducible refine zz ?_);first|(refine ldp k rfl rfl .a0 (D:= #[.int .u32 N,.int .u32 A,.int .u32 B,.int .u32 C]) eW fW ?_)|(refine ld1 k rfl rfl .a0 (by with_reducible assumption) ?_));refine(tries_any bk (n+2*s+3*kk) s (m+kk) z _ _ ⟨k.out.blk (i:=1) rfl,(k.out.box (i:=1) rfl).1,k.out.lt,k.out.fact.1,OKY.out,(by omega),(by omega),(by omega)⟩ (zX r) HIN.out N A B C HC.out (by omega) (by omega)).mono ?_;rintro e W1 ⟨y2,⟨⟨b,rfl⟩,hLv2,hp2,hgo2,hwa2⟩,hok2,hsl2,hrel2,hb⟩;replace k:=zj (k.out.kcallG (zb _ _ _) (i:=1) rfl hb hsl2);have OK2:=Lib.hid hok2;have REL3:=Lib.hid hrel2;have HGW:Hid (y2.gone=z.gone/\y2.want=z.want/\Liv z.P y2.P):=⟨hgo2,hwa2,hLv2⟩;clear hb hsl2 hok2 hrel2 hgo2 hwa2 hp2 hLv2 eW fW;replace k:Hid (St _ _ _ [(_,r,_),(_,KC y2,_)] (fun X W=>KSl y2 X W/\Sl 26 (.slice (some ⟨bd,od,none⟩) y.P.length cp) y.P X W) _ _):=k;cases b with
      |false=>
       go_wp2_with fail
       go_roundw
       case rel=>exact⟨kk+1,by omega,by go_num,zj ⟨y2,_,k.out.drop (n:=1),OK2.out.mono (by omega) (Nat.le_refl _) (by omega),REL2.out.trans REL3.out,HGW.out.1.trans HZG.out,HGW.out.2.1.trans HZW.out,HLV.out.trans HGW.out.2.2⟩⟩
       case measure=>simp[intOf];omega
      |true=>
       go_upto_region 15 with fail
       have HPer:=Lib.hid k.out.per;refine zt k 12 13 (by kernel_rfl) rfl ?_;clear k;intro W k;refine zq [(0,some 87,[12]),(1,some 88,[12]),(2,some 89,[12]),(3,some 90,[12]),(4,some 91,[12]),(5,some 92,[12]),(6,some 93,[12]),(7,some 94,[12])] [?v1_0,?v1_1,?v1_2,?v1_3,?v1_4,?v1_5,?v1_6,?v1_7] 5 (by kernel_rfl) ⟨_,k.out⟩ ?l1 ?h1;case l1=>
        intro w' hSw;iterate 8
         refine lkw rfl rfl (by rfl) ?_ ?_
         ·first|((with_reducible refine yw ?_);first|exact hSw.l1 rfl rfl (by repeat constructor) (by first|with_reducible assumption|rfl)|exact hSw.la rfl rfl .a0 (by first|with_reducible assumption|rfl) (by rfl)|exact hSw.lp rfl rfl .a1 (D:= #[_,_]) (by rfl) (by rfl) (by rfl))|(go_simp<;>with_reducible rfl)
         try simp only[Act.put,tS,t0,t1]
        trivial
       simp only[zw,zk,Act.put,tS,t0,t1];refine w1 8 4 (by kernel_rfl) rfl ?_;go_wp2_with fail;refine(tadd_any _ y2.T y2.left (zX r) _ _ k.out.fact.1.T OK2.out.T k.out.lt (by have:=OK2.out.Tl;omega)).mono ?_;rintro e W3 ⟨vt,lt,lft,rfl,ht1,ht2,ht3,hb⟩;have hvt:=ht1.one;replace k:=zj (k.out.call hb);clear hb;go_wp2_with fail;refine zd (yz ⟨_,k.out⟩) ?_;refine zq [(9,some 96,[10,11,12]),(10,some 97,[11,12]),(11,some 98,[12])] [?v2_9,?v2_10,?v2_11] 1 (by kernel_rfl) ⟨_,k.out⟩ ?l2 ?h2;case l2=>
        intro w' hSw;iterate 3
         refine lkw rfl rfl (by rfl) ?_ ?_
         ·go_simp<;>with_reducible rfl
         try simp only[Act.put,tS,t0,t1]
        trivial
       simp only[zw,zk,Act.put,tS,t0,t1];refine w1 12 0 (by kernel_rfl) rfl ?_;replace k:=zj (k.out.add ht1 (zb _ _ _));clear ht1;go_wp2_with((with_reducible refine zx ?_);refine sopt k (E:=KC {y2 with vT:=vt,left:=lft,T:=lt}) (G':=fun X W=>KSl {y2 with vT:=vt,left:=lft,T:=lt} X W/\Sl 26 (.slice (some ⟨bd,od,none⟩) y.P.length cp) y.P X W) rfl rfl rfl .a1 (by rfl) (by rfl) (yU hvt rfl) (by rfl) ((zO _).and (zb _ _ _)) (fun X W h=>⟨{h.1.1 with T:=h.2},h.1.2⟩) ?_;clear k;intro W k);refine zd (zJ rfl) ?_;refine zv (by kernel_rfl) ?_ _;clear HPer;go_wp2_with fail
       go_roundw
       case rel=>exact⟨kk+1,by omega,by go_num,zj ⟨{y2 with vT:=vt,left:=lft,T:=lt},_,k.out.drop (n:=1),{OK2.out.mono (show n+2*s+3*kk+2<=n+2*s+3*(kk+1) by omega) (Nat.le_refl _) (show m+kk+1<=m+(kk+1) by omega) with T:=(fun q hq=>(ht2 q hq).elim (OK2.out.T q) (fun e=>e▸⟨zX r,rfl,hp1⟩)),Tl:=Nat.le_trans ht3 (by have:=OK2.out.Tl;omega)},(REL2.out.trans REL3.out).trans ⟨rfl,rfl,rfl,rfl⟩,HGW.out.1.trans HZG.out,HGW.out.2.1.trans HZW.out,HLV.out.trans HGW.out.2.2⟩⟩
       case measure=>simp[intOf];omega
     ·have d2:(qV r==2)=false:=by rw[beq_eq_false_iff_ne];exact hst
      have n2: ¬(qV r=2):=hst;clear eW fW;go_wp2_with((with_reducible refine zz ?_);refine ld1 k rfl rfl .a0 (by with_reducible assumption) ?_)
      go_roundw
      case rel=>exact⟨kk+1,by omega,by go_num,zj ⟨z,_,k.out.drop (n:=1),OKY.out.mono (by omega) (Nat.le_refl _) (by omega),REL2.out,HZG.out,HZW.out,HLV.out⟩⟩
      case measure=>simp[intOf];omega
    ·have hki:(y.P.length:Int)<=kk:=by omega
     go_wp2_with fail;exact bodyPost_ret (results_none rfl _) rfl (k.out.kpost (x':=z) 0 rfl HB.out k.out.fact.1 (OKY.out.mono (by omega) (Nat.le_refl _) (by omega)) REL2.out ⟨rfl,HZG.out,HZW.out⟩)
section
open Go.RowKit Go.Proofs.YtaccidkgnkmagaaGreatDoor.Isa
theorem vY{x:Kn}{X:Nat->Prop}{W:World}(h:KSl x X W):yZ (KC x):=by
 intro v hv;simp only[KC,List.mem_cons,List.not_mem_nil,or_false] at hv;rcases hv with rfl|rfl|rfl|rfl|rfl|rfl|rfl|rfl|rfl|rfl|rfl|rfl|rfl|rfl|rfl|rfl|rfl
 ·exact h.P.one
 ·exact h.T.one
 ·rfl
 ·exact h.S.one
 ·exact h.Pi.one
 ·rfl
 ·exact h.H.one
 ·rfl
 ·exact h.Im.one
 ·exact h.Ou.one
 ·exact h.Is.one
 ·exact h.Bx.one
 ·rfl
 ·exact h.Tr.one
 ·exact h.Se.one
 ·rfl
 ·rfl
def KStepR(n s:Nat)(x:Kn)(X:Nat->Prop)(w:World)(e:Ending)(w':World):Prop:=
 ∃x',e= .returned (.agg (KC x'))/\KSl x' X w' /\KOk n s 8 x' /\(∀r∈x'.Tr,atOf r<x'.now)/\x'.Im=x.Im/\x'.Ou=x.Ou/\x'.Is=x.Is/\x'.now=x.now+1/\(x.gone≠0->x'.gone=x.gone/\x'.want=0)/\Below w.heap.size w w'
theorem kstep_any(n s:Nat)(x:Kn)(X0:Nat->Prop)(w:World)(hX: ∀b,X0 b->b<w.heap.size)(hsl:KSl x X0 w)(hok:KOk n s 8 x)(hT:Tab w)(hnn:n+2*s+30<=1000000)(hnow:x.now<=900000):
  Calls Tryz.prog 57 #[.agg (KC x)] w (KStepR (n+2*s+21) (s+1) x X0 w):=by
 have k:Hid (St (fun _=>False) X0 w [] (KSl x) X0 w):=St.begin hX hsl (zO x);have OK:=Lib.hid hok;have HT:=Lib.hid hT;have h0:=hok.now.1;have hks:(KC x).size=17:=rfl;have hkz:(KC x).zipIdx= #[(x.vP,0),(x.vT,1),(.int .i64 x.left,2),(x.vS,3),(x.vPi,4),(.int .i64 x.hsz,5),(x.vH,6),(.int .u64 x.now,7),(x.vIm,8),(x.vOu,9),(x.vIs,10),(x.vBx,11),(.string x.cons,12),(x.vTr,13),(x.vSe,14),(.int .i64 x.want,15),(.int .i64 x.gone,16)]:=by simp[KC]
 clear hok hsl hT;go_enter Tryz.func57,Tryz.ntmps57
 go_upto_region 2 with(first|((with_reducible refine zz ?_);refine lda k rfl rfl .a1 (by with_reducible assumption) ?_)|((with_reducible refine zI ?_);first|(refine bxa k (T:=56) rfl ?_;clear k;intro c56 X W k)|(refine bxa k (T:=116) rfl ?_;clear k;intro c116 X W k))|((with_reducible refine zf ?_);refine ala k Tryz.zeroValue56 ?_;clear k;intro b56 X W k))
 clear hks hkz;replace k:Hid (St _ _ _ [(c116,KC x,_),(b56,_,_),(c56,KC x,_)] _ _ _):=k
 go_upto_region 3 with(first|((with_reducible refine zx ?_);first|(refine yE k (E:=KC {x with vSe:= .slice none 0 0,Se:=[]}) (G':=KSl {x with vSe:= .slice none 0 0,Se:=[]}) rfl rfl rfl rfl .a0 (by rfl) (by rfl) (zO _) (fun X W h=>{h with Se:=qz _ _ _}) ?_;clear k;intro W k)|(refine yE k (E:=KC {x with vSe:= .slice none 0 0,Se:=[],want:=0}) (G':=KSl {x with vSe:= .slice none 0 0,Se:=[],want:=0}) rfl rfl rfl rfl .a0 (by rfl) (by rfl) (zO _) (fun X W h=>{h with}) ?_;clear k;intro W k))|fail)
 obtain⟨x1,hx1⟩: ∃x1:Kn,x1={x with vSe:= .slice none 0 0,Se:=[],want:=0}:=⟨_,rfl⟩;replace k:Hid (St _ _ _ [(c116,KC {x with vSe:= .slice none 0 0,Se:=[],want:=0},_),(b56,_,_),(c56,KC x,_)] (KSl {x with vSe:= .slice none 0 0,Se:=[],want:=0}) _ _):=k;have OK1:Hid (KOk n s 0 {x with vSe:= .slice none 0 0,Se:=[],want:=0}):={OK.out with Se:=(fun _ h=>by cases h),Sel:=Nat.le_refl _,want:=⟨show(0:Int)<=0 by decide,show(0:Int)<=10 by decide⟩};rw[<-hx1] at k OK1;have REL1:Hid (KRel x x1/\x1.gone=x.gone/\x1.want=0):=by rw[hx1];exact⟨⟨rfl,rfl,rfl,rfl⟩,rfl,rfl⟩
 have HN1:Hid (x1.now=x.now):=REL1.out.1.now;clear hx1;by_cases hg:x1.gone=0
 ·have him:x1.Im≠ []:=fun e=>by
   have:=OK1.out.idle e;omega
  have HIM:=Lib.hid him;have HG:=Lib.hid hg;have hnb:c116≠0:=fun e=>by
   have h1:=HT.out.1;rw[<-e] at h1;have h2:=(k.out.box (i:=0) rfl).2.1 h1;exact h2
  clear him;go_wp2_with((with_reducible refine zz ?_);refine ld1 k rfl rfl .a0 (by rfl) ?_);refine(wakes_any c116 n s 0 x1 _ _ ⟨k.out.blk (i:=0) rfl,(k.out.box (i:=0) rfl).1,k.out.lt,k.out.fact,OK1.out,(by omega),(by omega),(by omega)⟩ (by omega) (by omega)).mono ?_;rintro e W1 ⟨x2,⟨rfl,hgo2,hwa2⟩,hok2,hsl2,hrel2,hb⟩;replace k:=zj (k.out.kcall (i:=0) rfl hb hsl2);have OK2:=Lib.hid hok2;have REL2:=Lib.hid hrel2;clear hb hsl2 hok2 hrel2;replace k:Hid (St _ _ _ [(c116,KC x2,_),(b56,_,_),(c56,KC x,_)] _ _ _):=k;go_wp2_with fail;refine(goes_any c116 (n+2*s+18) s (0+6) x2 _ _ ⟨k.out.blk (i:=0) rfl,(k.out.box (i:=0) rfl).1,k.out.lt,k.out.fact,OK2.out,(by omega),(by omega),(by omega)⟩ (jt HT.out k.out.only (fun h=>h)) hnb (by rw[REL2.out.Im];exact HIM.out) (hwa2.trans REL1.out.2.2) (by omega) (by omega)).mono ?_;rintro e W2 ⟨x3,rfl,hok3,hsl3,hrel3,hb⟩;replace k:=zj (k.out.kcall (i:=0) rfl hb hsl3);have OK3:=Lib.hid hok3;have REL3:Hid (KRel x x3):=(REL1.out.1.trans REL2.out).trans hrel3;have HN3:Hid (x3.now=x.now):=REL3.out.now;clear hb hsl3 hok3 hrel3;replace k:Hid (St _ _ _ [(c116,KC x3,_),(b56,_,_),(c56,KC x,_)] _ _ _):=k;have hng: ¬(x.gone≠0):=fun h=>h (REL1.out.2.1.symm.trans HG.out);go_wp2_with((with_reducible refine zz ?_);refine ld1 k rfl rfl .a0 (by rfl) ?_);refine(until_one x3.now (by have:=HN3.out;omega) (by have:=HN3.out;omega) _).mono ?_;rintro e W4 ⟨rfl,rfl⟩;have hoK:yZ (KC {x3 with now:=x3.now+1}):=vY (x:={x3 with now:=x3.now+1}) {k.out.fact with};go_wp2_with(first|((with_reducible refine zx ?_);refine yE k (E:=KC {x3 with now:=x3.now+1}) (G':=KSl {x3 with now:=x3.now+1}) rfl rfl rfl rfl (by repeat constructor) (by rfl) (by rfl) (zO _) (fun X W h=>{h with}) ?_;clear k;intro W k)|(first|((with_reducible refine zz ?_);refine lda k rfl rfl .a0 (by rfl) ?_)|((with_reducible refine zx ?_);refine soa k rfl rfl rfl .a1 (by rfl) (by rfl) (by assumption) ?_;clear k;intro W k)));refine bodyPost_ret (yj rfl _ rfl (zY k.out 1 rfl 56 (Tryz.isAgg56 _) (Tryz.sizeOf56 _) rfl)) rfl ⟨{x3 with now:=x3.now+1},rfl,k.out.out,?_,?_,REL3.out.Im,REL3.out.Ou,REL3.out.Is,congrArg (· +1) REL3.out.now,fun h=>absurd h hng,k.out.end⟩
  ·exact{OK3.out.mono (n':=n+2*s+21) (s':=s+1) (m':=8) (by omega) (by omega) (by omega) with Tr:=(OK3.out.Tr.mono (by omega) (show x3.now<=x3.now+1 by omega)),now:=⟨show 0<=x3.now+1 by have:=HN3.out;omega,show x3.now+1<=1000000 by have:=HN3.out;omega⟩}
  ·intro r hr
   have:=OK3.out.Tr.at_ r hr;show atOf r<x3.now+1;omega
 ·have d0:(x1.gone==0)=false:=by rw[beq_eq_false_iff_ne];exact hg
  have HNG:=Lib.hid hg;clear hg;go_wp2_with((with_reducible refine zz ?_);refine ld1 k rfl rfl .a0 (by rfl) ?_);refine(until_one x1.now (by have:=HN1.out;omega) (by have:=HN1.out;omega) _).mono ?_;rintro e W4 ⟨rfl,rfl⟩;have hoK:yZ (KC {x1 with now:=x1.now+1}):=vY (x:={x1 with now:=x1.now+1}) {k.out.fact with};go_wp2_with(first|((with_reducible refine zx ?_);refine yE k (E:=KC {x1 with now:=x1.now+1}) (G':=KSl {x1 with now:=x1.now+1}) rfl rfl rfl rfl (by repeat constructor) (by rfl) (by rfl) (zO _) (fun X W h=>{h with}) ?_;clear k;intro W k)|(first|((with_reducible refine zz ?_);refine lda k rfl rfl .a0 (by rfl) ?_)|((with_reducible refine zx ?_);refine soa k rfl rfl rfl .a1 (by rfl) (by rfl) (by assumption) ?_;clear k;intro W k)));refine bodyPost_ret (yj rfl _ rfl (zY k.out 1 rfl 56 (Tryz.isAgg56 _) (Tryz.sizeOf56 _) rfl)) rfl ⟨{x1 with now:=x1.now+1},rfl,k.out.out,?_,?_,REL1.out.1.Im,REL1.out.1.Ou,REL1.out.1.Is,congrArg (· +1) REL1.out.1.now,fun _=>⟨REL1.out.2.1,REL1.out.2.2⟩,k.out.end⟩
  ·exact{OK1.out.mono (n':=n+2*s+21) (s':=s+1) (m':=8) (by omega) (by omega) (by omega) with Tr:=(OK1.out.Tr.mono (by omega) (show x1.now<=x1.now+1 by omega)),now:=⟨show 0<=x1.now+1 by have:=HN1.out;omega,show x1.now+1<=1000000 by have:=HN1.out;omega⟩}
  ·intro r hr
   have:=OK1.out.Tr.at_ r hr;show atOf r<x1.now+1;omega
end
section
open Go.RowKit Go.Proofs.YtaccidkgnkmagaaGreatDoor.Isa
def KArrR(n s m:Nat)(x:Kn)(X:Nat->Prop)(w:World)(e:Ending)(w':World):Prop:=
 ∃(v:Value) (l:List (Array Value)),e= .returned (.agg (KC {x with vBx:=v,Bx:=l}))/\KSl {x with vBx:=v,Bx:=l} X w' /\KOk n s m {x with vBx:=v,Bx:=l}/\Below w.heap.size w w'
theorem arrive_end{x:Kn}{X0 X:Nat->Prop}{w W:World}{bs:List (Nat×Array Value×TypeId)}{g cap i:Nat}{C:Array Value}{vb:Value}{lb:List (Array Value)}{xb:Int}{n s m:Nat}(k:St (fun _=>False) X0 w ((g,patch C (i*2) #[vb,.int .i64 xb],72)::bs) (fun X W=>KSl x X W/\Sl 2 vb lb X W) X W)
  (hX: ∀b,X0 b->b<w.heap.size) (hg:w.heap.size<=g) (hok:KOk n s m x) (hrw:Rw 2 x.Bx.length cap C x.Bx) (hq:i<x.Bx.length) (hlb: ∀m∈lb,Ty kMsg m) (hlb8:lb.length<=8) (hx0: -9223372036854775808<=xb) (hx1:xb<=9223372036854775807):
  KArrR n s m x X0 w (.returned (.agg (KC {x with vBx:= .slice (some ⟨g,0,none⟩) x.Bx.length cap,Bx:=x.Bx.set i #[vb,.int .i64 xb]}))) W:=by
 have k2:=k.release (i:=0) rfl hg hX bs rfl;have hr2:=hrw.set hq (r:= #[vb,.int .i64 xb]) rfl;obtain⟨hK,hB⟩:=k2.fact;have hbx: ∀r,r∈x.Bx.set i #[vb,.int .i64 xb]->BoxOk r (fun b=>X b/\b≠g) W:=by
  intro r hr;rcases List.mem_or_eq_of_mem_set hr with hr|rfl
  ·exact hK.bx r hr
  ·exact⟨vb,lb,xb,⟨rfl,hlb,hlb8,hx0,hx1⟩,hB⟩
 have hsl:KSl {x with vBx:= .slice (some ⟨g,0,none⟩) x.Bx.length cap,Bx:=x.Bx.set i #[vb,.int .i64 xb]} (fun b=>X b/\b≠g) W:={hK with Bx:=hr2.sl (k.blk (i:=0) rfl) (fun h=>h.2 rfl),bx:=hbx};exact⟨_,_,rfl,(zO _).sub k2.sup hsl,{hok with Bxl:=by simp only[List.length_set];exact hok.Bxl},k.end⟩
theorem karrive_any(n s m:Nat)(x:Kn)(X0:Nat->Prop)(w:World)(hX: ∀b,X0 b->b<w.heap.size)(hsl:KSl x X0 w)(hok:KOk n s m x)(q:Int)(body:ByteArray)(tm:Int)(hbd:body.size<=64)(ht0:0<=tm)(ht1:tm<18446744073709551616):
  Calls Tryz.prog 73 #[.agg (KC x),.int .i64 q,.string body,.int .u64 tm] w (KArrR n s m x X0 w):=by
 have k:Hid (St (fun _=>False) X0 w [] (KSl x) X0 w):=St.begin hX hsl (zO x);have OK:=Lib.hid hok;obtain⟨Ai,ci,eI,hci,_⟩:=hsl.Is.len;obtain⟨Ab,cb,eB,hcb,_⟩:=hsl.Bx.len;have hbo:=hsl.bx;have hoK:yZ (KC x):=vY hsl;have hIl:=hok.Isl;have hBl:=hok.Bxl;have hks:(KC x).size=17:=rfl;clear hok hsl;by_cases hbad:q<0\/(x.Is.length:Int)<=q
 ·have hend: ∀(W:World),Below w.heap.size w W->KSl x X0 W->KArrR n s m x X0 w (.returned (.agg (KC x))) W:=fun W hb hs=>⟨x.vBx,x.Bx,rfl,hs,OK.out,hb⟩
  by_cases hq0:q<0
  ·have d0:decide (q<0)=true:=decide_eq_true hq0
   clear hBl eB eI;go_enter Tryz.func73,Tryz.ntmps73;go_wp2_with(first|((with_reducible refine zz ?_);refine lda k rfl rfl .a1 (by with_reducible assumption) ?_)|((with_reducible refine zx ?_);refine soa k rfl rfl rfl .a0 (by with_reducible assumption) (by rfl) (by assumption) ?_;clear k;intro W k)|((with_reducible refine zI ?_);refine bxa k (T:=56) rfl ?_;clear k;intro c56 X W k)|((with_reducible refine zf ?_);refine ala k Tryz.zeroValue56 ?_;clear k;intro b56 X W k));exact bodyPost_ret (yj rfl _ rfl (zY k.out 0 rfl 56 (Tryz.isAgg56 _) (Tryz.sizeOf56 _) rfl)) rfl (hend _ k.out.end k.out.out)
  ·have d0:decide (q<0)=false:=decide_eq_false hq0
   have hq1:(x.Is.length:Int)<=q:=by omega
   clear hBl eB;go_enter Tryz.func73,Tryz.ntmps73;go_wp2_with(first|((with_reducible refine zp ?_);first|refine zg rfl rfl rfl (by with_reducible rfl) ?_)|((with_reducible refine zz ?_);first|(refine ld1 k rfl rfl .a1 (by rfl) ?_)|(refine lda k rfl rfl .a1 (by with_reducible assumption) ?_))|((with_reducible refine zx ?_);refine soa k rfl rfl rfl .a0 (by with_reducible assumption) (by rfl) (by assumption) ?_;clear k;intro W k)|((with_reducible refine zI ?_);refine bxa k (T:=56) rfl ?_;clear k;intro c56 X W k)|((with_reducible refine zf ?_);refine ala k Tryz.zeroValue56 ?_;clear k;intro b56 X W k));exact bodyPost_ret (yj rfl _ rfl (zY k.out 0 rfl 56 (Tryz.isAgg56 _) (Tryz.sizeOf56 _) rfl)) rfl (hend _ k.out.end k.out.out)
 ·obtain⟨i,rfl,hi⟩: ∃i:Nat,q=(i:Int)/\i<x.Is.length:=⟨q.toNat,by omega,by omega⟩
  have hiB:i<x.Bx.length:=by omega
  have d0:decide ((i:Int)<0)=false:=decide_eq_false (by omega);have hiz:(i:Int)<x.Is.length:=by omega
  have hiz2:(i:Int)<x.Bx.length:=by omega
  have nbig: ¬((x.Is.length:Int)<=i):=by omega
  have nbig2: ¬((x.Bx.length:Int)<=i):=by omega
  have hB6:x.Bx.length<=6:=by omega
  clear hbad hBl;obtain⟨row,hrow⟩: ∃row,x.Is[i]? =some row:=⟨_,List.getElem?_eq_getElem hi⟩;have hchk:=OK.out.Is _ (List.mem_of_getElem? hrow);have hch:=hchk.1;have hsl:=k.out.fact.Is;rw[eI] at hsl;obtain⟨bp,op,rfl,_⟩:=hsl.row hrow (by decide);clear hsl;obtain⟨box,hbox⟩: ∃box,x.Bx[i]? =some box:=⟨_,List.getElem?_eq_getElem hiB⟩;have hsl:=k.out.fact.Bx;rw[eB] at hsl;obtain⟨bq,oq,rfl,_⟩:=hsl.row hbox (by decide);clear hsl;obtain⟨vb,_,xb,⟨rfl,_,_,_,_⟩,_⟩:=hbo _ (List.mem_of_getElem? hbox);have hbone:Hid (∀q∈x.Bx,yZ q):=fun q hq=>by
   obtain⟨v',l',y',⟨rfl,_⟩,hs'⟩:=hbo q hq;exact yU hs'.one rfl
  have hbsz:Hid (∀q∈x.Bx,q.size=2):=fun q hq=>by
   obtain⟨v',l',y',⟨rfl,_⟩,hs'⟩:=hbo q hq;rfl
  clear hbo;go_enter Tryz.func73,Tryz.ntmps73
  go_upto_region 3 with(first|((with_reducible refine zp ?_);first|refine zg rfl rfl rfl (by with_reducible rfl) ?_)|((with_reducible refine zz ?_);refine ld1 k rfl rfl .a1 (by rfl) ?_)|((with_reducible refine zI ?_);refine bxa k (T:=56) rfl ?_;clear k;intro c56 X W k)|((with_reducible refine zf ?_);refine ala k Tryz.zeroValue56 ?_;clear k;intro b56 X W k))
  have HPer:=Lib.hid k.out.per;refine zt k 17 19 (by kernel_rfl) rfl ?_;clear k;intro W k;refine zq [(0,some 29,[17]),(1,some 30,[17]),(2,some 31,[17]),(3,some 32,[17]),(4,some 33,[17]),(5,some 34,[17]),(6,some 35,[17]),(7,some 36,[17]),(8,some 37,[17]),(9,some 38,[17]),(10,some 39,[17]),(11,some 40,[17])] [?v1_0,?v1_1,?v1_2,?v1_3,?v1_4,?v1_5,?v1_6,?v1_7,?v1_8,?v1_9,?v1_10,?v1_11] 7 (by kernel_rfl) ⟨_,k.out⟩ ?l1 ?h1;case l1=>
   intro w' hSw;iterate 4
    refine lkw rfl rfl (by rfl) ?_ ?_
    ·first|((with_reducible refine yw ?_);first|exact hSw.l1 rfl rfl .a1 (by rfl))|(go_simp<;>with_reducible rfl)
    try simp only[Act.put,tS,t0,t1]
   refine lkw rfl rfl (by rfl) ?_ ?_
   ·refine yG rfl ?_
    obtain⟨X',hX'⟩:=hSw.get;have hs':=hX'.Is;rw[eI] at hs';exact jJ hs' hrow (by decide) (Tryz.isAgg87 _) (Tryz.sizeOf87 _)
   try simp only[Act.put,tS,t0,t1]
   iterate 4
    refine lkw rfl rfl (by rfl) ?_ ?_
    ·first|((with_reducible refine yw ?_);first|exact hSw.l1 rfl rfl .a1 (by rfl))|(go_simp<;>with_reducible rfl)
    try simp only[Act.put,tS,t0,t1]
   refine lkw rfl rfl (by rfl) ?_ ?_
   ·refine yG rfl ?_
    obtain⟨X',hX'⟩:=hSw.get;have hs':=hX'.Bx;rw[eB] at hs';exact jJ hs' hbox (by decide) (Tryz.isAgg72 _) (Tryz.sizeOf72 _)
   try simp only[Act.put,tS,t0,t1]
   iterate 2
    refine lkw rfl rfl (by rfl) ?_ ?_
    ·go_simp<;>with_reducible rfl
    try simp only[Act.put,tS,t0,t1]
   trivial
  simp only[zw,zk,Act.put,tS,t0,t1];refine yI (i:=12) (j:=16) (fuel:=6) (by kernel_rfl) rfl rfl ?_ ?_
  ·go_wp2_with fail
   obtain⟨vb1,lb,xb1,⟨ebx,hlb,hlb8,hxb0,hxb1⟩,hbx⟩:=k.out.fact.bx _ (List.mem_of_getElem? hbox);obtain⟨rfl,rfl⟩:=gI ebx;refine(psend_any _ vb lb xb tm body _ _ hch hbx hlb (by omega) k.out.lt hxb0 hxb1 ht0 ht1 hbd 8 (by omega) hlb8 hchk.2).mono ?_;clear hbx;rintro e W1 ⟨vt,lt,xt,y,rfl,hlt,hlt2,hlt3,hxt0,hxt1,hy,hb⟩;have hvt:=hlt.one;replace k:=zj ((k.out.call hb).add hlt (zb _ _ _));clear hb hlt;go_wp2_with fail;refine zd (yz ⟨_,(k.out).turn (fun h=>h.1) (zO _)⟩) ?_;refine zq [(13,some 28,[17]),(14,some 42,[17])] [?v2_13,?v2_14] 4 (by kernel_rfl) ⟨_,(k.out).turn (fun h=>h.1) (zO _)⟩ ?l2 ?h2;case l2=>
    intro w' hSw;iterate 2
     refine lkw rfl rfl (by rfl) ?_ ?_
     ·go_simp<;>with_reducible rfl
     try simp only[Act.put,tS,t0,t1]
    trivial
   simp only[zw,zk,Act.put,tS,t0,t1];refine zU [(15,some 43,[])] [?v3_15] 3 (by kernel_rfl) (.inl ⟨_,(k.out).turn (fun h=>h.1) (zO _)⟩) ?l3 ?h3;case l3=>
    intro w';refine lkw rfl rfl (by rfl) ?_ ?_
    ·go_simp<;>with_reducible rfl
    try simp only[Act.put,tS,t0,t1]
    trivial
   simp only[zw,zk,Act.put,tS,t0,t1];refine w1 16 2 (by kernel_rfl) rfl ?_;go_wp2_with((with_reducible refine zf ?_);refine zG k rfl (T:=72) rfl (Tryz.zeroValue72 _) ?_;clear k;intro b8 X W k);refine zd (yz ⟨_,(k.out.drop (n:=1)).turn (fun h=>h.1) (zO _)⟩) ?_;refine w1 17 1 (by kernel_rfl) rfl ?_;go_wp2_with((with_reducible refine zx ?_);refine yl k 0 rfl (T:=72) rfl rfl rfl rfl (Tryz.sizeOf72 _) rfl rfl (yU hvt rfl) ?_;clear k;intro W k);refine zd (zJ rfl) ?_;refine zU [(18,some 10,[])] [?v4_18] 0 (by kernel_rfl) (.inr (by kernel_rfl)) ?l4 ?h4;case l4=>
    intro w';refine lkw rfl rfl (by rfl) ?_ ?_
    ·go_simp<;>with_reducible rfl
    try simp only[Act.put,tS,t0,t1]
    trivial
   simp only[zw,zk,Act.put,tS,t0,t1];refine zv (by kernel_rfl) ?_ _;clear HPer;replace k:Hid (St _ _ _ [(b8,#[vt,.int .i64 xt],72),(_,_,_),(_,_,_)] _ _ _):=k;go_wp2_with((with_reducible refine zz ?_);refine ld1 k rfl rfl .a2 (by rfl) ?_);have hsl:=k.out.fact.1.Bx;rw[eB] at hsl;refine(cloneBox_any _ x.Bx _ _ hsl hbone.out (by omega)).mono ?_;rintro e W1 ⟨v2,rfl,hown,hb⟩;clear hsl;obtain⟨A2,cap,rfl,_⟩:=yb hown;obtain⟨g,cap',cur,ev,hbg,hgk,_⟩:=xI hown (by omega);injection ev with ev1 _ ev2
   subst ev1 ev2;obtain⟨cur,hbg,hgk,hRw⟩:=vX hown rfl hbsz.out (by omega);have hgw:w.heap.size<=g:=Nat.le_trans k.out.only.size hbg;have hfit:i*2+2<=cur.size:=hRw.fits hiB;replace k:=zj (k.out.adopt hb hbg hgk);clear hown hb hgk hbg
   go_upto_region 5 with((with_reducible refine zx ?_);refine so1 k rfl rfl rfl rfl .a3 (by rfl) (E:=KC {x with vBx:= .slice (some ⟨g,0,none⟩) x.Bx.length cap}) (by rfl) ?_;clear k;intro W k)
   replace k:Hid (St _ _ _ [(g,cur,_),(b8,#[vt,.int .i64 xt],72),(_,_,_),(_,KC {x with vBx:= .slice (some ⟨g,0,none⟩) x.Bx.length cap},_)] _ _ _):=k
   go_upto_region 6 with(first|((with_reducible refine zz ?_);first|(refine ld1 k rfl rfl (by repeat constructor) (by rfl) ?_)|(refine lda k rfl rfl .a1 (by rfl) ?_))|((with_reducible refine zx ?_);refine xm k 0 rfl (T:=72) rfl rfl rfl rfl (Tryz.sizeOf72 _) rfl hfit (yU hvt rfl) ?_;clear k;intro W k))
   replace k:Hid (St _ _ _ [(g,patch cur (i*2) #[vt,.int .i64 xt],_),(b8,#[vt,.int .i64 xt],72),(_,_,_),(_,KC {x with vBx:= .slice (some ⟨g,0,none⟩) x.Bx.length cap},_)] _ _ _):=k;have hoK2:yZ (KC {x with vBx:= .slice (some ⟨g,0,none⟩) x.Bx.length cap}):=by
    intro v hv;simp only[KC,List.mem_cons,List.not_mem_nil,or_false] at hv;have h0:=k.out.fact.1;rcases hv with rfl|rfl|rfl|rfl|rfl|rfl|rfl|rfl|rfl|rfl|rfl|rfl|rfl|rfl|rfl|rfl|rfl
    ·exact h0.P.one
    ·exact h0.T.one
    ·rfl
    ·exact h0.S.one
    ·exact h0.Pi.one
    ·rfl
    ·exact h0.H.one
    ·rfl
    ·exact h0.Im.one
    ·exact h0.Ou.one
    ·exact h0.Is.one
    ·rfl
    ·rfl
    ·exact h0.Tr.one
    ·exact h0.Se.one
    ·rfl
    ·rfl
   go_wp2_with(first|((with_reducible refine zz ?_);refine lda k rfl rfl .a3 (by rfl) ?_)|((with_reducible refine zx ?_);refine sop k rfl rfl rfl .a2 (by rfl) (by rfl) (by assumption) rfl ?_;clear k;intro W k));exact bodyPost_ret (yj rfl _ rfl (zY k.out 2 rfl 56 (Tryz.isAgg56 _) (Tryz.sizeOf56 _) rfl)) rfl (arrive_end k.out hX hgw OK.out hRw hiB hlt2 hlt3 hxt0 hxt1)
  ·go_wp2_with((with_reducible refine zf ?_);refine zG k rfl (T:=72) rfl (Tryz.zeroValue72 _) ?_;clear k;intro b8 X W k)
   refine zd (yz ⟨_,k.out.drop (n:=1)⟩) ?_;refine w1 12 5 (by kernel_rfl) rfl ?_;go_wp2_with fail;obtain⟨vb1,lb,xb1,⟨ebx,hlb,hlb8,hxb0,hxb1⟩,hbx⟩:=k.out.fact.bx _ (List.mem_of_getElem? hbox);obtain⟨rfl,rfl⟩:=gI ebx;refine(psend_any _ vb lb xb tm body _ _ hch hbx hlb (by omega) k.out.lt hxb0 hxb1 ht0 ht1 hbd 8 (by omega) hlb8 hchk.2).mono ?_;clear hbx;rintro e W1 ⟨vt,lt,xt,y,rfl,hlt,hlt2,hlt3,hxt0,hxt1,hy,hb⟩;have hvt:=hlt.one;replace k:=zj ((k.out.call hb).add hlt (zb _ _ _));clear hb hlt;go_wp2_with fail;refine zd (yz ⟨_,(k.out.drop (n:=1)).turn (fun h=>h.1) (zO _)⟩) ?_;refine zq [(13,some 28,[17]),(14,some 42,[17])] [?v5_13,?v5_14] 3 (by kernel_rfl) ⟨_,(k.out.drop (n:=1)).turn (fun h=>h.1) (zO _)⟩ ?l5 ?h5;case l5=>
    intro w' hSw;iterate 2
     refine lkw rfl rfl (by rfl) ?_ ?_
     ·go_simp<;>with_reducible rfl
     try simp only[Act.put,tS,t0,t1]
    trivial
   simp only[zw,zk,Act.put,tS,t0,t1];refine zU [(15,some 43,[])] [?v6_15] 2 (by kernel_rfl) (.inl ⟨_,(k.out.drop (n:=1)).turn (fun h=>h.1) (zO _)⟩) ?l6 ?h6;case l6=>
    intro w';refine lkw rfl rfl (by rfl) ?_ ?_
    ·go_simp<;>with_reducible rfl
    try simp only[Act.put,tS,t0,t1]
    trivial
   simp only[zw,zk,Act.put,tS,t0,t1];refine w1 17 1 (by kernel_rfl) rfl ?_;go_wp2_with((with_reducible refine zx ?_);refine yl k 0 rfl (T:=72) rfl rfl rfl rfl (Tryz.sizeOf72 _) rfl rfl (yU hvt rfl) ?_;clear k;intro W k);refine zd (zJ rfl) ?_;refine zU [(18,some 10,[])] [?v7_18] 0 (by kernel_rfl) (.inr (by kernel_rfl)) ?l7 ?h7;case l7=>
    intro w';refine lkw rfl rfl (by rfl) ?_ ?_
    ·go_simp<;>with_reducible rfl
    try simp only[Act.put,tS,t0,t1]
    trivial
   simp only[zw,zk,Act.put,tS,t0,t1];refine zv (by kernel_rfl) ?_ _;clear HPer;replace k:Hid (St _ _ _ [(b8,#[vt,.int .i64 xt],72),(_,_,_),(_,_,_)] _ _ _):=k;go_wp2_with((with_reducible refine zz ?_);refine ld1 k rfl rfl .a2 (by rfl) ?_);have hsl:=k.out.fact.1.Bx;rw[eB] at hsl;refine(cloneBox_any _ x.Bx _ _ hsl hbone.out (by omega)).mono ?_;rintro e W1 ⟨v2,rfl,hown,hb⟩;clear hsl;obtain⟨A2,cap,rfl,_⟩:=yb hown;obtain⟨g,cap',cur,ev,hbg,hgk,_⟩:=xI hown (by omega);injection ev with ev1 _ ev2
   subst ev1 ev2;obtain⟨cur,hbg,hgk,hRw⟩:=vX hown rfl hbsz.out (by omega);have hgw:w.heap.size<=g:=Nat.le_trans k.out.only.size hbg;have hfit:i*2+2<=cur.size:=hRw.fits hiB;replace k:=zj (k.out.adopt hb hbg hgk);clear hown hb hgk hbg
   go_upto_region 5 with((with_reducible refine zx ?_);refine so1 k rfl rfl rfl rfl .a3 (by rfl) (E:=KC {x with vBx:= .slice (some ⟨g,0,none⟩) x.Bx.length cap}) (by rfl) ?_;clear k;intro W k)
   replace k:Hid (St _ _ _ [(g,cur,_),(b8,#[vt,.int .i64 xt],72),(_,_,_),(_,KC {x with vBx:= .slice (some ⟨g,0,none⟩) x.Bx.length cap},_)] _ _ _):=k
   go_upto_region 6 with(first|((with_reducible refine zz ?_);first|(refine ld1 k rfl rfl (by repeat constructor) (by rfl) ?_)|(refine lda k rfl rfl .a1 (by rfl) ?_))|((with_reducible refine zx ?_);refine xm k 0 rfl (T:=72) rfl rfl rfl rfl (Tryz.sizeOf72 _) rfl hfit (yU hvt rfl) ?_;clear k;intro W k))
   replace k:Hid (St _ _ _ [(g,patch cur (i*2) #[vt,.int .i64 xt],_),(b8,#[vt,.int .i64 xt],72),(_,_,_),(_,KC {x with vBx:= .slice (some ⟨g,0,none⟩) x.Bx.length cap},_)] _ _ _):=k;have hoK2:yZ (KC {x with vBx:= .slice (some ⟨g,0,none⟩) x.Bx.length cap}):=by
    intro v hv;simp only[KC,List.mem_cons,List.not_mem_nil,or_false] at hv;have h0:=k.out.fact.1;rcases hv with rfl|rfl|rfl|rfl|rfl|rfl|rfl|rfl|rfl|rfl|rfl|rfl|rfl|rfl|rfl|rfl|rfl
    ·exact h0.P.one
    ·exact h0.T.one
    ·rfl
    ·exact h0.S.one
    ·exact h0.Pi.one
    ·rfl
    ·exact h0.H.one
    ·rfl
    ·exact h0.Im.one
    ·exact h0.Ou.one
    ·exact h0.Is.one
    ·rfl
    ·rfl
    ·exact h0.Tr.one
    ·exact h0.Se.one
    ·rfl
    ·rfl
   go_wp2_with(first|((with_reducible refine zz ?_);refine lda k rfl rfl .a3 (by rfl) ?_)|((with_reducible refine zx ?_);refine sop k rfl rfl rfl .a2 (by rfl) (by rfl) (by assumption) rfl ?_;clear k;intro W k));exact bodyPost_ret (yj rfl _ rfl (zY k.out 2 rfl 56 (Tryz.isAgg56 _) (Tryz.sizeOf56 _) rfl)) rfl (arrive_end k.out hX hgw OK.out hRw hiB hlt2 hlt3 hxt0 hxt1)
end
end Go.Proofs.YtaccidkgnkmagaaGreatDoor.Top
