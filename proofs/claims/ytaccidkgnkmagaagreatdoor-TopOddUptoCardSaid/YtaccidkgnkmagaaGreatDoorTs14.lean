/-
  Walks and laws of the whole machine: Kern14, Keep, Holes. Conditions: each theorem names its own.
-/
import Derived.Test.YtaccidkgnkmagaaGreatDoorTs13
set_option maxRecDepth 16000
set_option maxHeartbeats 12800000
set_option linter.unusedVariables false
set_option linter.unusedSimpArgs false
namespace Go.Proofs.YtaccidkgnkmagaaGreatDoor.Top
open Go.RowKit
def KillsR(x:Kn)(e:Ending)(x':Kn):Prop:=(∃b:Bool,e= .returned (.bool b))/\x'.want=x.want
theorem kills_any(bk n s m:Nat)(x:Kn)(X0:Nat->Prop)(w:World)(h:KPre bk n s m x X0 w)(r:Array Value)(hr:Ty yu r)(hin:zX r∈xh x.P)(hpar:0<=ym r/\ym r<zX r)(N A B C:Int)(hc:qk N A B C)(him:x.Im≠ []):
  Calls Tryz.prog 128 #[.pointer (some ⟨bk,0,none⟩),.agg r,.agg #[.int .u32 N,.int .u32 A,.int .u32 B,.int .u32 C]] w (qX bk (n+1) s m x X0 w (KillsR x)):=by
 have k:=zj h.begin;have OK:=Lib.hid h.ok;have HB:=Lib.hid h.blk;have hn:=h.hn;have hs:=h.hs;have hm:=h.hm;have hrs:r.size=26:=hr.size;have hro:=hr.one;have er0:r.toList[0]? =some (.int .i64 (zX r)):=by rw[Array.getElem?_toList];exact xq hr 0 rfl
 have HR:=Lib.hid hr;have HI:=Lib.hid hin;have HPa:=Lib.hid hpar;have HIM:=Lib.hid him;have hA:=hc.2.1;have HCA:=Lib.hid hc;clear h hr hin hpar him;go_enter Tryz.func128,Tryz.ntmps128
 go_upto_region 2 with((with_reducible refine zI ?_);first|(refine bxa k (T:=130) rfl ?_;clear k;intro c130 X W k)|(refine bxa k (T:=132) rfl ?_;clear k;intro c132 X W k))
 replace k:Hid (St _ _ _ [(c130,#[.int .u32 N,.int .u32 A,.int .u32 B,.int .u32 C],_),(c132,r,_),(_,KC x,_)] _ _ _):=k;have HPer:=Lib.hid k.out.per;refine zt k 13 15 (by kernel_rfl) rfl ?_;clear k;intro W k;refine zq [(0,some 11,[13]),(1,some 12,[13]),(2,some 13,[13]),(3,some 14,[13]),(4,some 15,[13]),(5,some 16,[13]),(6,some 17,[13]),(7,some 18,[13])] [?v1_0,?v1_1,?v1_2,?v1_3,?v1_4,?v1_5,?v1_6,?v1_7] 7 (by kernel_rfl) ⟨_,k.out⟩ ?l1 ?h1;case l1=>
  intro w' hSw;iterate 8
   refine lkw rfl rfl (by rfl) ?_ ?_
   ·first|((with_reducible refine yw ?_);first|exact hSw.l1 rfl rfl (by repeat constructor) (by rfl))|(go_simp<;>with_reducible rfl)
   try simp only[Act.put,tS,t0,t1]
  trivial
 simp only[zw,zk,Act.put,tS,t0,t1];refine yI (i:=8) (j:=12) (fuel:=6) (by kernel_rfl) rfl rfl ?_ ?_
 ·go_wp2_with fail
  refine(jk _ x.P A _ _ k.out.fact.P OK.out.P.ty).mono ?_;rintro e W1 ⟨r2,b2,rfl,hr2,hg1,hg2,hb⟩;have hrs2:r2.size=26:=hr2.size;have hro2:=hr2.one;replace k:=zj (k.out.call hb);clear hb;go_wp2_with fail;refine zd (yz ⟨_,k.out⟩) ?_;refine zq [(9,some 10,[13]),(10,some 20,[13])] [?v2_9,?v2_10] 4 (by kernel_rfl) ⟨_,k.out⟩ ?l2 ?h2;case l2=>
   intro w' hSw;iterate 2
    refine lkw rfl rfl (by rfl) ?_ ?_
    ·go_simp<;>with_reducible rfl
    try simp only[Act.put,tS,t0,t1]
   trivial
  simp only[zw,zk,Act.put,tS,t0,t1];refine zU [(11,some 21,[])] [?v3_11] 3 (by kernel_rfl) (.inl ⟨_,k.out⟩) ?l3 ?h3;case l3=>
   intro w';refine lkw rfl rfl (by rfl) ?_ ?_
   ·go_simp<;>with_reducible rfl
   try simp only[Act.put,tS,t0,t1]
   trivial
  simp only[zw,zk,Act.put,tS,t0,t1];refine w1 12 2 (by kernel_rfl) rfl ?_;go_wp2_with((with_reducible refine zf ?_);refine ala k Tryz.zeroValue132 ?_;clear k;intro b132 X W k);refine zd (yz ⟨_,k.out.drop (n:=1)⟩) ?_;refine w1 13 1 (by kernel_rfl) rfl ?_;go_wp2_with((with_reducible refine zx ?_);refine soa k rfl rfl rfl .a0 (by with_reducible assumption) (by rfl) (by assumption) ?_;clear k;intro W k);refine zd (zJ rfl) ?_;refine zU [(14,some 9,[])] [?v4_14] 0 (by kernel_rfl) (.inr (by kernel_rfl)) ?l4 ?h4;case l4=>
   intro w';refine lkw rfl rfl (by rfl) ?_ ?_
   ·go_simp<;>with_reducible rfl
   try simp only[Act.put,tS,t0,t1]
   trivial
  simp only[zw,zk,Act.put,tS,t0,t1];refine zv (by kernel_rfl) ?_ _;clear HPer;replace k:Hid (St _ _ _ [(b132,r2,_),(c130,#[.int .u32 N,.int .u32 A,.int .u32 B,.int .u32 C],_),(c132,r,_),(_,KC x,_)] _ _ _):=k;have e2:r2.toList[2]? =some (.int .i64 (qV r2)):=by rw[Array.getElem?_toList];exact xq hr2 2 rfl
  have e0:r2.toList[0]? =some (.int .i64 (zX r2)):=by rw[Array.getElem?_toList];exact xq hr2 0 rfl
  by_cases hA1:A=1
  ·subst hA1
   go_wp2_with((with_reducible refine zz ?_);first|(refine ld1 k rfl rfl (by repeat constructor) (by first|with_reducible assumption|rfl) ?_)|(refine lda k rfl rfl (by repeat constructor) (by first|with_reducible assumption|rfl) ?_));refine(yV bk n s m x _ _ ⟨k.out.blk (i:=3) rfl,(k.out.box (i:=3) rfl).1,k.out.lt,k.out.fact,OK.out,(by omega),(by omega),(by omega)⟩ r HR.out HI.out HPa.out N 1 B C 0 13 HCA.out (by omega) (by omega)).mono ?_;rintro e W1 ⟨x2,⟨rfl,hp2,hLv2,hgo2,hwa2⟩,hok2,hsl2,hrel2,hb⟩;replace k:=zj (k.out.kcall (i:=3) rfl hb hsl2);clear hb hsl2;go_wp2_with fail;exact bodyPost_ret (zh rfl rfl) rfl (k.out.kpost (x':=x2) 3 rfl HB.out k.out.fact hok2 hrel2 ⟨⟨_,rfl⟩,hwa2⟩)
  ·have dA1:(A==1)=false:=by rw[beq_eq_false_iff_ne];exact hA1
   cases b2 with
   |false=>
    go_wp2_with(first|((with_reducible refine zp ?_);first|go_big_skip)|((with_reducible refine zz ?_);first|(refine ld1 k rfl rfl (by repeat constructor) (by first|with_reducible assumption|rfl) ?_)|(refine lda k rfl rfl (by repeat constructor) (by first|with_reducible assumption|rfl) ?_)));refine(yV bk n s m x _ _ ⟨k.out.blk (i:=3) rfl,(k.out.box (i:=3) rfl).1,k.out.lt,k.out.fact,OK.out,(by omega),(by omega),(by omega)⟩ r HR.out HI.out HPa.out N A B C 0 7 HCA.out (by omega) (by omega)).mono ?_;rintro e W1 ⟨x2,⟨rfl,hp2,hLv2,hgo2,hwa2⟩,hok2,hsl2,hrel2,hb⟩;replace k:=zj (k.out.kcall (i:=3) rfl hb hsl2);clear hb hsl2;go_wp2_with fail;exact bodyPost_ret (zh rfl rfl) rfl (k.out.kpost (x':=x2) 3 rfl HB.out k.out.fact hok2 hrel2 ⟨⟨_,rfl⟩,hwa2⟩)
   |true=>
    obtain⟨hm2,hq2⟩:=hg1 rfl;have HQ2:=Lib.hid hq2;clear hg1 hg2 hq2;by_cases hst2:qV r2=4
    ·rw[hst2] at e2
     go_wp2_with(first|((with_reducible refine zp ?_);first|refine zg rfl rfl rfl (by with_reducible rfl) ?_)|((with_reducible refine zz ?_);first|(refine ld1 k rfl rfl (by repeat constructor) (by first|with_reducible assumption|rfl) ?_)|(refine lda k rfl rfl (by repeat constructor) (by first|with_reducible assumption|rfl) ?_)));refine(yV bk n s m x _ _ ⟨k.out.blk (i:=3) rfl,(k.out.box (i:=3) rfl).1,k.out.lt,k.out.fact,OK.out,(by omega),(by omega),(by omega)⟩ r HR.out HI.out HPa.out N A B C 0 7 HCA.out (by omega) (by omega)).mono ?_;rintro e W1 ⟨x2,⟨rfl,hp2,hLv2,hgo2,hwa2⟩,hok2,hsl2,hrel2,hb⟩;replace k:=zj (k.out.kcall (i:=3) rfl hb hsl2);clear hb hsl2;go_wp2_with fail;exact bodyPost_ret (zh rfl rfl) rfl (k.out.kpost (x':=x2) 3 rfl HB.out k.out.fact hok2 hrel2 ⟨⟨_,rfl⟩,hwa2⟩)
    ·have d4:(qV r2==4)=false:=by rw[beq_eq_false_iff_ne];exact hst2
     have n4: ¬(qV r2=4):=hst2;have hge:=OK.out.P.pid r2 hm2;go_wp2_with(first|((with_reducible refine zp ?_);first|refine zg rfl rfl rfl (by with_reducible rfl) ?_)|((with_reducible refine zz ?_);refine ld1 k rfl rfl (by repeat constructor) (by first|with_reducible assumption|rfl) ?_));refine(ZY bk n s m x _ _ ⟨k.out.blk (i:=3) rfl,(k.out.box (i:=3) rfl).1,k.out.lt,k.out.fact,OK.out,(by omega),(by omega),(by omega)⟩ (zX r2) 137 0 hge.1 (by omega) (by omega) (.inl rfl) HIM.out).mono ?_;rintro e W1 ⟨x1,⟨rfl,hw1,hkeep⟩,hok1,hsl1,hrel1,hb⟩;have OK1:=Lib.hid hok1;have REL:=Lib.hid hrel1;replace k:=zj (k.out.kcall (i:=3) rfl hb hsl1);clear hb hsl1 hok1 hrel1;replace k:Hid (St _ _ _ [(b132,r2,_),(c130,#[.int .u32 N,.int .u32 A,.int .u32 B,.int .u32 C],_),(c132,r,_),(_,KC x1,_)] _ _ _):=k;by_cases hpp:zX r2=zX r
     ·have d5:(zX r2==zX r)=true:=by rw[beq_iff_eq];exact hpp
      go_wp2_with((with_reducible refine zz ?_);refine ld1 k rfl rfl (by repeat constructor) (by with_reducible assumption) ?_);exact bodyPost_ret (zh rfl rfl) rfl (k.out.kpost (x':=x1) 3 rfl HB.out k.out.fact (OK1.out.mono (Nat.le_succ n) (Nat.le_refl _) (Nat.le_refl _)) REL.out ⟨⟨_,rfl⟩,hw1⟩)
     ·have d5:(zX r2==zX r)=false:=by rw[beq_eq_false_iff_ne];exact hpp
      have hin1:zX r∈xh x1.P:=hkeep (by rw[HQ2.out];exact hA1) _ HI.out (fun e=>hpp e.symm);have HIN:=Lib.hid hin1;clear hkeep hin1
      go_upto_region 6 with((with_reducible refine zz ?_);refine ld1 k rfl rfl (by repeat constructor) (by with_reducible assumption) ?_)
      have HPer:=Lib.hid k.out.per;refine zt k 11 12 (by kernel_rfl) rfl ?_;clear k;intro W k;refine zq [(0,some 32,[11]),(1,some 33,[11]),(2,some 34,[11]),(3,some 35,[11]),(4,some 36,[11]),(5,some 37,[11]),(6,some 38,[11])] [?v5_0,?v5_1,?v5_2,?v5_3,?v5_4,?v5_5,?v5_6] 5 (by kernel_rfl) ⟨_,k.out⟩ ?l5 ?h5;case l5=>
       intro w' hSw;iterate 7
        refine lkw rfl rfl (by rfl) ?_ ?_
        ·first|((with_reducible refine yw ?_);first|exact hSw.l1 rfl rfl (by repeat constructor) (by first|with_reducible assumption|rfl))|(go_simp<;>with_reducible rfl)
        try simp only[Act.put,tS,t0,t1]
       trivial
      simp only[zw,zk,Act.put,tS,t0,t1];refine w1 7 4 (by kernel_rfl) rfl ?_;go_wp2_with fail;refine(jk _ x1.P (zX r) _ _ k.out.fact.P OK1.out.P.ty).mono ?_;rintro e W1 ⟨r3,b3,rfl,hr3,hg1,hg2,hb⟩;have hrs3:r3.size=26:=hr3.size;have hro3:=hr3.one;replace k:=zj (k.out.call hb);clear hb;go_wp2_with fail;refine zd (yz ⟨_,k.out⟩) ?_;refine zq [(8,some 31,[11]),(9,some 40,[11])] [?v6_8,?v6_9] 2 (by kernel_rfl) ⟨_,k.out⟩ ?l6 ?h6;case l6=>
       intro w' hSw;iterate 2
        refine lkw rfl rfl (by rfl) ?_ ?_
        ·go_simp<;>with_reducible rfl
        try simp only[Act.put,tS,t0,t1]
       trivial
      simp only[zw,zk,Act.put,tS,t0,t1];refine zU [(10,some 41,[])] [?v7_10] 1 (by kernel_rfl) (.inl ⟨_,k.out⟩) ?l7 ?h7;case l7=>
       intro w';refine lkw rfl rfl (by rfl) ?_ ?_
       ·go_simp<;>with_reducible rfl
       try simp only[Act.put,tS,t0,t1]
       trivial
      simp only[zw,zk,Act.put,tS,t0,t1];refine w1 11 0 (by kernel_rfl) rfl ?_;go_wp2_with((with_reducible refine zx ?_);refine soa k rfl rfl rfl .a2 (by with_reducible assumption) (by with_reducible assumption) (by assumption) ?_;clear k;intro W k);refine zd (zJ rfl) ?_;refine zv (by kernel_rfl) ?_ _;clear HPer;obtain⟨hm3,hq3⟩:=gt HIN.out hg1 (fun h=>(hg2 h).1);replace k:Hid (St _ _ _ [(b132,r2,_),(c130,#[.int .u32 N,.int .u32 A,.int .u32 B,.int .u32 C],_),(c132,r3,_),(_,KC x1,_)] _ _ _):=k;go_wp2_with((with_reducible refine zz ?_);refine lda k rfl rfl (by repeat constructor) (by first|with_reducible assumption|rfl) ?_);refine(yV bk n s m x1 _ _ ⟨k.out.blk (i:=3) rfl,(k.out.box (i:=3) rfl).1,k.out.lt,k.out.fact,OK1.out,(by omega),(by omega),(by omega)⟩ r3 hr3 (by rw[hq3];exact HIN.out) (OK1.out.P.par r3 hm3) N A B C 0 0 HCA.out (by omega) (by omega)).mono ?_;rintro e W1 ⟨x2,⟨rfl,hp2,hLv2,hgo2,hwa2⟩,hok2,hsl2,hrel2,hb⟩;replace k:=zj (k.out.kcall (i:=3) rfl hb hsl2);clear hb hsl2;go_wp2_with fail;exact bodyPost_ret (zh rfl rfl) rfl (k.out.kpost (x':=x2) 3 rfl HB.out k.out.fact hok2 (REL.out.trans hrel2) ⟨⟨_,rfl⟩,hwa2.trans hw1⟩)
 ·go_wp2_with((with_reducible refine zf ?_);refine ala k Tryz.zeroValue132 ?_;clear k;intro b132 X W k)
  refine zd (yz ⟨_,k.out.drop (n:=1)⟩) ?_;refine w1 8 5 (by kernel_rfl) rfl ?_;go_wp2_with fail;refine(jk _ x.P A _ _ k.out.fact.P OK.out.P.ty).mono ?_;rintro e W1 ⟨r2,b2,rfl,hr2,hg1,hg2,hb⟩;have hrs2:r2.size=26:=hr2.size;have hro2:=hr2.one;replace k:=zj (k.out.call hb);clear hb;go_wp2_with fail;refine zd (yz ⟨_,k.out.drop (n:=1)⟩) ?_;refine zq [(9,some 10,[13]),(10,some 20,[13])] [?v8_9,?v8_10] 3 (by kernel_rfl) ⟨_,k.out.drop (n:=1)⟩ ?l8 ?h8;case l8=>
   intro w' hSw;iterate 2
    refine lkw rfl rfl (by rfl) ?_ ?_
    ·go_simp<;>with_reducible rfl
    try simp only[Act.put,tS,t0,t1]
   trivial
  simp only[zw,zk,Act.put,tS,t0,t1];refine zU [(11,some 21,[])] [?v9_11] 2 (by kernel_rfl) (.inl ⟨_,k.out.drop (n:=1)⟩) ?l9 ?h9;case l9=>
   intro w';refine lkw rfl rfl (by rfl) ?_ ?_
   ·go_simp<;>with_reducible rfl
   try simp only[Act.put,tS,t0,t1]
   trivial
  simp only[zw,zk,Act.put,tS,t0,t1];refine w1 13 1 (by kernel_rfl) rfl ?_;go_wp2_with((with_reducible refine zx ?_);refine soa k rfl rfl rfl .a0 (by with_reducible assumption) (by rfl) (by assumption) ?_;clear k;intro W k);refine zd (zJ rfl) ?_;refine zU [(14,some 9,[])] [?v10_14] 0 (by kernel_rfl) (.inr (by kernel_rfl)) ?l10 ?h10;case l10=>
   intro w';refine lkw rfl rfl (by rfl) ?_ ?_
   ·go_simp<;>with_reducible rfl
   try simp only[Act.put,tS,t0,t1]
   trivial
  simp only[zw,zk,Act.put,tS,t0,t1];refine zv (by kernel_rfl) ?_ _;clear HPer;replace k:Hid (St _ _ _ [(b132,r2,_),(c130,#[.int .u32 N,.int .u32 A,.int .u32 B,.int .u32 C],_),(c132,r,_),(_,KC x,_)] _ _ _):=k;have e2:r2.toList[2]? =some (.int .i64 (qV r2)):=by rw[Array.getElem?_toList];exact xq hr2 2 rfl
  have e0:r2.toList[0]? =some (.int .i64 (zX r2)):=by rw[Array.getElem?_toList];exact xq hr2 0 rfl
  by_cases hA1:A=1
  ·subst hA1
   go_wp2_with((with_reducible refine zz ?_);first|(refine ld1 k rfl rfl (by repeat constructor) (by first|with_reducible assumption|rfl) ?_)|(refine lda k rfl rfl (by repeat constructor) (by first|with_reducible assumption|rfl) ?_));refine(yV bk n s m x _ _ ⟨k.out.blk (i:=3) rfl,(k.out.box (i:=3) rfl).1,k.out.lt,k.out.fact,OK.out,(by omega),(by omega),(by omega)⟩ r HR.out HI.out HPa.out N 1 B C 0 13 HCA.out (by omega) (by omega)).mono ?_;rintro e W1 ⟨x2,⟨rfl,hp2,hLv2,hgo2,hwa2⟩,hok2,hsl2,hrel2,hb⟩;replace k:=zj (k.out.kcall (i:=3) rfl hb hsl2);clear hb hsl2;go_wp2_with fail;exact bodyPost_ret (zh rfl rfl) rfl (k.out.kpost (x':=x2) 3 rfl HB.out k.out.fact hok2 hrel2 ⟨⟨_,rfl⟩,hwa2⟩)
  ·have dA1:(A==1)=false:=by rw[beq_eq_false_iff_ne];exact hA1
   cases b2 with
   |false=>
    go_wp2_with(first|((with_reducible refine zp ?_);first|go_big_skip)|((with_reducible refine zz ?_);first|(refine ld1 k rfl rfl (by repeat constructor) (by first|with_reducible assumption|rfl) ?_)|(refine lda k rfl rfl (by repeat constructor) (by first|with_reducible assumption|rfl) ?_)));refine(yV bk n s m x _ _ ⟨k.out.blk (i:=3) rfl,(k.out.box (i:=3) rfl).1,k.out.lt,k.out.fact,OK.out,(by omega),(by omega),(by omega)⟩ r HR.out HI.out HPa.out N A B C 0 7 HCA.out (by omega) (by omega)).mono ?_;rintro e W1 ⟨x2,⟨rfl,hp2,hLv2,hgo2,hwa2⟩,hok2,hsl2,hrel2,hb⟩;replace k:=zj (k.out.kcall (i:=3) rfl hb hsl2);clear hb hsl2;go_wp2_with fail;exact bodyPost_ret (zh rfl rfl) rfl (k.out.kpost (x':=x2) 3 rfl HB.out k.out.fact hok2 hrel2 ⟨⟨_,rfl⟩,hwa2⟩)
   |true=>
    obtain⟨hm2,hq2⟩:=hg1 rfl;have HQ2:=Lib.hid hq2;clear hg1 hg2 hq2;by_cases hst2:qV r2=4
    ·rw[hst2] at e2
     go_wp2_with(first|((with_reducible refine zp ?_);first|refine zg rfl rfl rfl (by with_reducible rfl) ?_)|((with_reducible refine zz ?_);first|(refine ld1 k rfl rfl (by repeat constructor) (by first|with_reducible assumption|rfl) ?_)|(refine lda k rfl rfl (by repeat constructor) (by first|with_reducible assumption|rfl) ?_)));refine(yV bk n s m x _ _ ⟨k.out.blk (i:=3) rfl,(k.out.box (i:=3) rfl).1,k.out.lt,k.out.fact,OK.out,(by omega),(by omega),(by omega)⟩ r HR.out HI.out HPa.out N A B C 0 7 HCA.out (by omega) (by omega)).mono ?_;rintro e W1 ⟨x2,⟨rfl,hp2,hLv2,hgo2,hwa2⟩,hok2,hsl2,hrel2,hb⟩;replace k:=zj (k.out.kcall (i:=3) rfl hb hsl2);clear hb hsl2;go_wp2_with fail;exact bodyPost_ret (zh rfl rfl) rfl (k.out.kpost (x':=x2) 3 rfl HB.out k.out.fact hok2 hrel2 ⟨⟨_,rfl⟩,hwa2⟩)
    ·have d4:(qV r2==4)=false:=by rw[beq_eq_false_iff_ne];exact hst2
     have n4: ¬(qV r2=4):=hst2;have hge:=OK.out.P.pid r2 hm2;go_wp2_with(first|((with_reducible refine zp ?_);first|refine zg rfl rfl rfl (by with_reducible rfl) ?_)|((with_reducible refine zz ?_);refine ld1 k rfl rfl (by repeat constructor) (by first|with_reducible assumption|rfl) ?_));refine(ZY bk n s m x _ _ ⟨k.out.blk (i:=3) rfl,(k.out.box (i:=3) rfl).1,k.out.lt,k.out.fact,OK.out,(by omega),(by omega),(by omega)⟩ (zX r2) 137 0 hge.1 (by omega) (by omega) (.inl rfl) HIM.out).mono ?_;rintro e W1 ⟨x1,⟨rfl,hw1,hkeep⟩,hok1,hsl1,hrel1,hb⟩;have OK1:=Lib.hid hok1;have REL:=Lib.hid hrel1;replace k:=zj (k.out.kcall (i:=3) rfl hb hsl1);clear hb hsl1 hok1 hrel1;replace k:Hid (St _ _ _ [(b132,r2,_),(c130,#[.int .u32 N,.int .u32 A,.int .u32 B,.int .u32 C],_),(c132,r,_),(_,KC x1,_)] _ _ _):=k;by_cases hpp:zX r2=zX r
     ·have d5:(zX r2==zX r)=true:=by rw[beq_iff_eq];exact hpp
      go_wp2_with((with_reducible refine zz ?_);refine ld1 k rfl rfl (by repeat constructor) (by with_reducible assumption) ?_);exact bodyPost_ret (zh rfl rfl) rfl (k.out.kpost (x':=x1) 3 rfl HB.out k.out.fact (OK1.out.mono (Nat.le_succ n) (Nat.le_refl _) (Nat.le_refl _)) REL.out ⟨⟨_,rfl⟩,hw1⟩)
     ·have d5:(zX r2==zX r)=false:=by rw[beq_eq_false_iff_ne];exact hpp
      have hin1:zX r∈xh x1.P:=hkeep (by rw[HQ2.out];exact hA1) _ HI.out (fun e=>hpp e.symm);have HIN:=Lib.hid hin1;clear hkeep hin1
      go_upto_region 6 with((with_reducible refine zz ?_);refine ld1 k rfl rfl (by repeat constructor) (by with_reducible assumption) ?_)
      have HPer:=Lib.hid k.out.per;refine zt k 11 12 (by kernel_rfl) rfl ?_;clear k;intro W k;refine zq [(0,some 32,[11]),(1,some 33,[11]),(2,some 34,[11]),(3,some 35,[11]),(4,some 36,[11]),(5,some 37,[11]),(6,some 38,[11])] [?v11_0,?v11_1,?v11_2,?v11_3,?v11_4,?v11_5,?v11_6] 5 (by kernel_rfl) ⟨_,k.out⟩ ?l11 ?h11;case l11=>
       intro w' hSw;iterate 7
        refine lkw rfl rfl (by rfl) ?_ ?_
        ·first|((with_reducible refine yw ?_);first|exact hSw.l1 rfl rfl (by repeat constructor) (by first|with_reducible assumption|rfl))|(go_simp<;>with_reducible rfl)
        try simp only[Act.put,tS,t0,t1]
       trivial
      simp only[zw,zk,Act.put,tS,t0,t1];refine w1 7 4 (by kernel_rfl) rfl ?_;go_wp2_with fail;refine(jk _ x1.P (zX r) _ _ k.out.fact.P OK1.out.P.ty).mono ?_;rintro e W1 ⟨r3,b3,rfl,hr3,hg1,hg2,hb⟩;have hrs3:r3.size=26:=hr3.size;have hro3:=hr3.one;replace k:=zj (k.out.call hb);clear hb;go_wp2_with fail;refine zd (yz ⟨_,k.out⟩) ?_;refine zq [(8,some 31,[11]),(9,some 40,[11])] [?v12_8,?v12_9] 2 (by kernel_rfl) ⟨_,k.out⟩ ?l12 ?h12;case l12=>
       intro w' hSw;iterate 2
        refine lkw rfl rfl (by rfl) ?_ ?_
        ·go_simp<;>with_reducible rfl
        try simp only[Act.put,tS,t0,t1]
       trivial
      simp only[zw,zk,Act.put,tS,t0,t1];refine zU [(10,some 41,[])] [?v13_10] 1 (by kernel_rfl) (.inl ⟨_,k.out⟩) ?l13 ?h13;case l13=>
       intro w';refine lkw rfl rfl (by rfl) ?_ ?_
       ·go_simp<;>with_reducible rfl
       try simp only[Act.put,tS,t0,t1]
       trivial
      simp only[zw,zk,Act.put,tS,t0,t1];refine w1 11 0 (by kernel_rfl) rfl ?_;go_wp2_with((with_reducible refine zx ?_);refine soa k rfl rfl rfl .a2 (by with_reducible assumption) (by with_reducible assumption) (by assumption) ?_;clear k;intro W k);refine zd (zJ rfl) ?_;refine zv (by kernel_rfl) ?_ _;clear HPer;obtain⟨hm3,hq3⟩:=gt HIN.out hg1 (fun h=>(hg2 h).1);replace k:Hid (St _ _ _ [(b132,r2,_),(c130,#[.int .u32 N,.int .u32 A,.int .u32 B,.int .u32 C],_),(c132,r3,_),(_,KC x1,_)] _ _ _):=k;go_wp2_with((with_reducible refine zz ?_);refine lda k rfl rfl (by repeat constructor) (by first|with_reducible assumption|rfl) ?_);refine(yV bk n s m x1 _ _ ⟨k.out.blk (i:=3) rfl,(k.out.box (i:=3) rfl).1,k.out.lt,k.out.fact,OK1.out,(by omega),(by omega),(by omega)⟩ r3 hr3 (by rw[hq3];exact HIN.out) (OK1.out.P.par r3 hm3) N A B C 0 0 HCA.out (by omega) (by omega)).mono ?_;rintro e W1 ⟨x2,⟨rfl,hp2,hLv2,hgo2,hwa2⟩,hok2,hsl2,hrel2,hb⟩;replace k:=zj (k.out.kcall (i:=3) rfl hb hsl2);clear hb hsl2;go_wp2_with fail;exact bodyPost_ret (zh rfl rfl) rfl (k.out.kpost (x':=x2) 3 rfl HB.out k.out.fact hok2 (REL.out.trans hrel2) ⟨⟨_,rfl⟩,hwa2.trans hw1⟩)
theorem Only.putObjK{n:Nat}(W:World)(o:Obj):Only (fun b=>b<=n+1) W (W.putObj (n+1) o):=Only.putObj (M:=fun b=>b<=n+1) (Nat.le_refl _) o
theorem wp_range_keep{g:Operand}{p:Tmp}{assign body:Code}{Q:Exit->Act->World->Prop}{a:Act}{w:World}{α:Type}(F:FuncId)(caps:Array Value)(m:Nat)(enc:α->Value)(can:Nat->α->Prop)
  (hg:a.eval g= .func (.func F) #[] caps) (hcall: ∀(args:Array Value) (w:World),(callFunc F args).run Tryz.prog w= .ok (.enter F args) w)
  (I:Nat->World->Prop) (IS:Code->World->Prop)
  (hput: ∀k W o,I k W->I k (W.putObj (w.heap.size+1) (.loop o))) (hputS: ∀c W o,IS c W->IS c (W.putObj (w.heap.size+1) (.loop o)))
  (h0: ∀o,I 0 ((w.alloc (.deferred (some []))).alloc (.loop o)))
  (hiter: ∀(fn:FuncId) (W:World),(∀k x W,(I k W/\Rec fn a #[p] assign body w.heap.size .ready none W)->can k x->YieldAt Fence.wide 7 Tryz.prog (w.heap.size+1) #[enc x] W fun e W'=> ∃b,e= .returned (.bool b)/\(b=true->(I (k+1) W' /\Rec fn a #[p] assign body w.heap.size .ready none W')/\Only (fun b=>b<=w.heap.size+1) W W')/\(b=false-> ∃c,IS c W' /\Rec fn a #[p] assign body w.heap.size .done (some c) W'))->
   (I 0 W/\Rec fn a #[p] assign body w.heap.size .ready none W)->CallsIn Fence.wide 8 Tryz.prog F (#[.func (.yield (w.heap.size+1)) #[] #[]]++caps) W fun e W'=>(∃v,e= .returned v)/\((I m W' /\Rec fn a #[p] assign body w.heap.size .ready none W')\/ ∃c,IS c W' /\Rec fn a #[p] assign body w.heap.size .done (some c) W'))
  (hround: ∀(fn:FuncId) k x W,I k W->Rec fn a #[p] assign body w.heap.size .ready none W->can k x->assign.wpIn (Fence.wide.inRound (w.heap.size+1)) 7 Tryz.prog (Exit.then (fun a₁ W₁=>Rec fn a #[p] assign body w.heap.size .ready none W₁/\
    ∀W₂,W₂=W₁.putObj (w.heap.size+1) (.loop (recL fn a #[p] assign body w.heap.size .busy none))->body.wpIn (Fence.wide.inRound (w.heap.size+1)) 7 Tryz.prog (fun e _ W'=>Rec fn a #[p] assign body w.heap.size .busy none W' /\match e with
     | .normal=>I (k+1) W' /\Only (fun b=>b<=w.heap.size+1) W W'
     | .ret=>IS .ret W'
     | .exit i=>IS (.exit i) W'
     |_=>False) a₁ W₂) (fun _ _ _=>False)) {tmps:=a.tmps.setIfInBounds p (enc x),defers:=[]} W)
  (hdone: ∀W,I m W->W.heap[w.heap.size]? =some (.deferred (some []))->Q .normal {a with defers:={target:= .collected w.heap.size,args:= #[]}::a.defers} W)
  (hstop: ∀c W,IS c W->W.heap[w.heap.size]? =some (.deferred (some []))->c.wp Tryz.prog Q {a with defers:={target:= .collected w.heap.size,args:= #[]}::a.defers} W):
  (Code.rangeFunc g #[p] assign body).wp Tryz.prog Q a w:=by
 refine(wpIn_wide (n:=9)).1 (wpIn_rangeFunc ?_);intro fn _;refine⟨w.heap.size+1,[{target:= .collected w.heap.size,args:= #[]}],(w.alloc (.deferred (some []))).alloc (.loop (recL fn a #[p] assign body w.heap.size .ready none)),{target:= .fn (.func F) caps,args:= #[.func (.yield (w.heap.size+1)) #[] #[]]},(w.alloc (.deferred (some []))).alloc (.loop (recL fn a #[p] assign body w.heap.size .ready none)),F,#[.func (.yield (w.heap.size+1)) #[] #[]]++caps,(w.alloc (.deferred (some []))).alloc (.loop (recL fn a #[p] assign body w.heap.size .ready none)),?_,?_,?_,?_,(fun h=>by cases h),?_⟩
 ·exact run_enterLoop_outer (P:=Tryz.prog) (w:=w) fn a.tmps #[p] assign body
 ·simp only[resolve,hg]
  simp[go_sem]
 ·intro f' _;trivial
 ·simp[invoke,go_sem,hcall]
 ·refine(hiter fn _ ?hy ⟨h0 _,?hr⟩).mono ?_
  case hr=>
   constructor
   ·rw[Below.heap_alloc _ _ _ (by simp)]
    exact World.alloc_heap_new w _
   ·have:=World.alloc_heap_new (w.alloc (.deferred (some []))) (.loop (recL fn a #[p] assign body w.heap.size .ready none))
    rwa [World.size_alloc] at this
  case hy=>
   rintro k x W ⟨hI,hR⟩ hc;have hyl:=run_yield (P:=Tryz.prog) (args:= #[enc x]) hR.2 (by simp[recL]);refine⟨fn,_,assign,body,hyl,roundIn_of_wpIn trivial ?_⟩;have hz:(#[p].zip #[enc x]).foldl (fun t (q:Tmp×Value)=>t.setIfInBounds q.1 q.2) a.tmps=a.tmps.setIfInBounds p (enc x):=by simp
   have hr0:=hround fn k x W hI hR hc;rw[<-hz] at hr0;refine Go.wpIn_mono hr0 ?_;rintro e a₁ W₁ he;cases e with
   |normal=>
    obtain⟨hR1,hb⟩:=he;refine⟨_,run_beginRound hR1.2 rfl,?_⟩;refine Go.wpIn_mono (hb _ rfl) ?_;rintro e a2 W2 ⟨hR2,he⟩;cases e with
    |normal=>exact⟨_,_,run_endRound none hR2.2,true,rfl,fun _=>⟨⟨hput _ _ _ he.1,hR2.put⟩,he.2.trans (Only.putObjK _ _) (fun _ _ h=>h)⟩,fun h=>by cases h⟩
    |ret=>exact⟨_,_,run_endRound (some .ret) hR2.2,false,rfl,(fun h=>by cases h),fun _=>⟨_,hputS _ _ _ he,hR2.put⟩⟩
    |exit i=>exact⟨_,_,run_endRound (some (.exit i)) hR2.2,false,rfl,(fun h=>by cases h),fun _=>⟨_,hputS _ _ _ he,hR2.put⟩⟩
    |_=>exact he.elim
   |_=>exact he.elim
  rintro e W' ⟨⟨v,rfl⟩,⟨hI,hR⟩|⟨c,hI,hR⟩⟩
  ·exact⟨none,_,run_endLoop hR.2 (fun h=>by cases h),hdone _ (hput _ _ _ hI) (hR.put (st':= .exhausted) (p':=none)).1⟩
  ·exact⟨some c,_,run_endLoop hR.2 (fun h=>by cases h),wpIn_wide.2 (hstop c _ (hputS _ _ _ hI) (hR.put (st':= .exhausted) (p':=some c)).1)⟩
section
open Go.RowKit
attribute [local go_sem] Oper.semAt_some
theorem rob_load{b:Nat}{C:Array Value}{T:TypeId}{X:Nat->Prop}{W:World}(h:RoB b C T X W){T':TypeId}(ht:tyT T'=some (false,1)){off:Nat}{v:Value}(hv:C.toList[off]? =some v):(loadVar T' ⟨b,off,none⟩).run Tryz.prog W= .ok v W:=by
 have hc:=(h.1.rules.1 off).trans ((Array.getElem?_toList ..).symm.trans hv);simp[loadVar,(jg ht W).1,hc]
theorem holes_in(n N L Bt:Nat)(hsz:Int)(vH:Value)(H:List (Array Value))(J JS:World->Prop)(hH: ∀r∈H,Ty vv r)(hle:H.length<=1000000)(hsz0: -9223372036854775808<=hsz/\hsz<=9223372036854775807)
  (hJ1: ∀W,J W->Blk W Bt #[.int .i64 hsz,vH] 50/\Sl 3 vH H (fun _=>False) W/\N+1<W.heap.size)
  (hJ2: ∀W W',J W->Below W.heap.size W W'->J W')
  (hY: ∀(x y:Int) W,(-9223372036854775808<=x/\x<=9223372036854775807)->J W->YieldAt Fence.wide (n-1) Tryz.prog L #[.agg #[.int .i64 x,.int .i64 y,.int .i64 0]] W fun e W'=> ∃b,e= .returned (.bool b)/\(b=true->J W' /\Only (fun b=>b<=N+1) W W')/\(b=false->JS W'))
  (W:World) (h0:J W):
  CallsIn Fence.wide n Tryz.prog 105 #[.func (.yield L) #[] #[],.pointer (some ⟨Bt,0,none⟩)] W fun e W'=>(∃v,e= .returned v)/\(J W' \/JS W'):=by
 have HJ2:=zj hJ2;have HY:=zj hY;have HH:=zj hH;obtain⟨a1,a2,a3⟩:=hJ1 _ h0;obtain⟨A,c,rfl,hc,hcm⟩:=a2.len;unfold maxLen at hcm;have k:Hid (St (fun _=>False) (fun _=>False) W [] (fun X W=>RoB Bt #[.int .i64 hsz,.slice A H.length c] 50 X W/\Sl 3 (.slice A H.length c) H X W) (fun _=>False) W):=St.begin (fun _ h=>h.elim) ⟨⟨a1,fun h=>h⟩,a2⟩ ((vE _ _ _).and (zb _ _ _));have HJ1:=zj hJ1;have H0:=zj h0;clear hJ1 hJ2 hY hH h0 a1 a2;have hspz:Ty vv #[.int .i64 hsz,.int .i64 0,.int .i64 0]:=⟨yY hsz0.1 hsz0.2,yY (by decide) (by decide),yY (by decide) (by decide),trivial⟩;refine callsIn_of_wp Tryz.func105 rfl trivial ?_ rfl;simp only[Tryz.ntmps105,List.size_toArray,List.length_cons,List.length_nil,Nat.reduceAdd,Nat.reduceSub,Array.replicate_succ,Array.replicate_zero,List.push_toArray,List.append_toArray,List.nil_append,List.cons_append]
 gi_wp2_with fail
 refine wpIn_wide.2 ?_;have HPer:=Lib.hid k.out.per;refine zt k 10 10 (by kernel_rfl) rfl ?_;clear k;intro W k;refine zq [(0,some 6,[]),(1,some 7,[]),(3,some 9,[]),(4,some 10,[]),(5,some 11,[]),(9,some 15,[])] [?v1_0,?v1_1,?v1_3,?v1_4,?v1_5,?v1_9] 4 (by kernel_rfl) ⟨_,k.out⟩ ?l1 ?h1;case l1=>
  intro w' hSw;refine lkw rfl rfl (by rfl) ?_ ?_
  ·go_simp<;>with_reducible rfl
  try simp only[Act.put,tS,t0,t1]
  refine lkw rfl rfl (by rfl) ?_ ?_
  ·refine yG rfl ?_
   obtain⟨X',hX'⟩:=hSw.get;exact rob_load hX'.1 rfl (by rfl)
  try simp only[Act.put,tS,t0,t1]
  refine lkw rfl rfl (by rfl) ?_ ?_
  ·go_simp<;>with_reducible rfl
  try simp only[Act.put,tS,t0,t1]
  refine lkw rfl rfl (by rfl) ?_ ?_
  ·refine yG rfl ?_
   obtain⟨X',hX'⟩:=hSw.get;exact rob_load hX'.1 rfl (by rfl)
  try simp only[Act.put,tS,t0,t1]
  iterate 2
   refine lkw rfl rfl (by rfl) ?_ ?_
   ·go_simp<;>with_reducible rfl
   try simp only[Act.put,tS,t0,t1]
  trivial
 simp only[zw,zk,Act.put,tS,t0,t1];refine yI (i:=2) (j:=6) (fuel:=3) (by kernel_rfl) rfl rfl ?_ ?_
 ·go_wp2_with fail
  refine(clipSpan_any A _ c _ hc).mono ?_;rintro e W1 ⟨rfl,rfl⟩;go_wp2_with fail;refine zd (yz ⟨_,k.out⟩) ?_;refine w1 6 2 (by kernel_rfl) rfl ?_;go_wp2_with((with_reducible refine qY ?_);refine qp k jl rfl rfl rfl rfl rfl (by decide) (by decide) ?_;clear k;intro b X W2 k);have hkr:=k.out.blk (i:=0) rfl;replace k:=zj (k.out.drop (n:=1));refine zd (yz ⟨_,k.out⟩) ?_;refine w1 7 1 (by kernel_rfl) rfl ?_;have hfT:=k.out.fact.2;have hwz:=k.out.only.size;go_wp2_with((with_reducible refine jZ ?_);refine jv jl (by decide) rfl (.tmp 8) (.tmp 12) rfl _ H [#[.int .i64 hsz,.int .i64 0,.int .i64 0]] _ (fun _=>False) rfl (sl_cap hfT (Nat.le_refl _) hc) _ rfl (qU hkr rfl (Nat.le_refl 1) (by unfold maxLen;omega)) (by intro r hr;rw[List.mem_singleton.1 hr];exact zm rfl) (by simp) (by simp;omega) (by omega) ?_;intro v3 W3 hown3 hb3);obtain⟨A2,c2,rfl,_⟩:=yb hown3;have hrow:Sl 3 _ (H++ [#[.int .i64 hsz,.int .i64 0,.int .i64 0]]) (fun b=>b<=N+1) W3:=zV hown3 (xl (fun q hq=>(HH.out q hq).size) rfl) (fun b hb=>by have hb':b<=N+1:=hb;omega);replace k:=zj (k.out.call hb3);clear hown3 hb3 hfT hkr hwz;refine zd (yz ⟨_,k.out⟩) ?_;refine zq [(8,some 14,[])] [?v2_8] 0 (by kernel_rfl) ⟨_,k.out⟩ ?l2 ?h2;case l2=>
   intro w' hSw;refine lkw rfl rfl (by rfl) ?_ ?_
   ·go_simp<;>with_reducible rfl
   try simp only[Act.put,tS,t0,t1]
   trivial
  simp only[zw,zk,Act.put,tS,t0,t1];refine zv (by kernel_rfl) ?_ _;clear HPer;have HJW:=zj (HJ2.out _ _ H0.out k.out.end);have hlen:(H++ [#[Value.int .i64 hsz,Value.int .i64 0,Value.int .i64 0]]).length=H.length+1:=by simp
  have HSP:Hid (∀q∈H++ [#[Value.int .i64 hsz,Value.int .i64 0,Value.int .i64 0]],Ty vv q):=xl HH.out hspz;rw[hlen] at hrow;have HROW:=Lib.hid hrow;clear k hrow hspz;generalize H++ [#[Value.int .i64 hsz,Value.int .i64 0,Value.int .i64 0]]=H2 at HROW HSP hlen⊢;have HLEN:=Lib.hid hlen;clear hlen
  gi_wp2_with fail
  gi_loopw [3,15] (fun p i wr=> ∃(kk:Nat) (q:Int),kk<=H.length+1/\(-9223372036854775808<=q/\q<=9223372036854775807)/\p= .int .i64 q/\i= .int .i64 kk/\Hid (J wr/\Sl 3 (.slice A2 (H.length+1) c2) H2 (fun b=>b<=N+1) wr)) (fun _ i _=>H.length+1-(intOf i).toNat)
  case atStart=>exact⟨0,0,Nat.zero_le _,by omega,rfl,rfl,zj ⟨HJW.out,HROW.out⟩⟩
  case round=>
   obtain⟨kk,q,hk,hq,rfl,rfl,hJ⟩:=hrel;by_cases hlt:kk<H.length+1
   ·have zlt:(kk:Int)<(H.length:Int)+1:=by omega
    have zl2:(kk:Int)<(H2.length:Int):=by have:=HLEN.out;omega
    obtain⟨r,hr⟩: ∃r,H2[kk]? =some r:=⟨H2[kk]'(by have:=HLEN.out;omega),List.getElem?_eq_getElem _⟩;have hrt:=HSP.out r (List.mem_of_getElem? hr);obtain⟨xa,xb,xc,rfl⟩:=span_lit hrt;have hsl:=hJ.out.2;obtain⟨b,o,rfl,hbs,hbX,_,hcell⟩:=hsl.row hr (by decide);have HC:=Lib.hid hcell;have HSL:=Lib.hid hsl;clear hsl hcell hr hrt;have k:Hid (St (fun _=>False) (fun _=>False) wr [] (fun _ _=>True) (fun _=>False) wr):=St.begin (fun _ h=>h.elim) trivial xZ;by_cases hqa:q<xa
    ·have dqa:decide (q<xa)=true:=decide_eq_true hqa
     gi_wp2_with (first|(refine skip_w rfl rfl rfl (by with_reducible rfl) rfl ?_)|(refine jz rfl (fun _ h=>by cases h) ?_;refine zZ rfl (.tmp 17) 165 rfl b _ 3 rfl #[.int .i64 xa,.int .i64 xb,.int .i64 xc] (Tryz.isAgg165 _) (Tryz.sizeOf165 _) rfl (fun j u hj=>by have:=HC.out j u hj;simpa using this) ?_;refine yp ?_)|(refine jz rfl (fun _ h=>by cases h) ?_;(first|((with_reducible refine zz ?_);refine ld1 k rfl rfl .a0 (by rfl) ?_)|((with_reducible refine zx ?_);refine soa k rfl rfl rfl .a0 (by rfl) (by rfl) (zm rfl) ?_;clear k;intro W k)|((with_reducible refine zf ?_);refine ala k Tryz.zeroValue165 ?_;clear k;intro b165 X W k));refine yp ?_)|(refine qZ rfl rfl rfl (by with_reducible rfl) ?_;refine jz rfl (fun _ h=>by cases h) ?_;((with_reducible refine zz ?_);refine ld1 k rfl rfl .a0 (by rfl) ?_);refine yp ?_))
     have hb:=k.out.end;have hJ2':=HJ2.out _ _ hJ.out.1 hb;have hsl2:=(zb _ _ _).below HSL.out hb;have hbk:=k.out.blk (i:=0) rfl;have hbn:=(k.out.box (i:=0) rfl).2.1;have hnw:=(HJ1.out _ hJ.out.1).2.2;have HB5:=Lib.hid hbk;obtain⟨fn,tmps,assign,body,hyl,hR⟩:=HY.out q (wrap64 (xa-q)) W hq hJ2';have HRd:=zj hR;rw[hyl];clear hR hyl;refine⟨(fun h=>by cases h),?_⟩;refine HRd.out.mono ?_;rintro e W3 ⟨bb,rfl,hbt,hbf⟩;cases bb with
     |true=>
      obtain⟨hJ3,ho3⟩:=hbt rfl;have hsl3:=(zb _ _ _).step hsl2 ho3;have hbk3:Blk W3 b165 _ 165:=(ho3.block b165 HB5.out.lt (fun h=>hbn (by omega))).trans HB5.out;clear k hb hJ2' hsl2 hbk HB5 hbt hbf ho3 HRd;have HS3:=Lib.hid hsl3;have HJ3:=zj hJ3;have k:Hid (St (fun k=>k=b165) (fun b=>b=b165) W3 [(b165,#[.int .i64 xa,.int .i64 xb,.int .i64 xc],165)] (fun _ _=>True) (fun b=>b=b165) W3):=St.begin1 (fun b hb=>by have e:b=b165:=hb;rw[e];exact hbk3.lt) rfl hbk3 trivial xZ;clear hsl3 hJ3 hbk3
      gi_wp2_with (first|(refine skip_w rfl rfl rfl (by with_reducible rfl) rfl ?_)|(refine jz rfl (fun _ h=>by cases h) ?_;refine zZ rfl (.tmp 17) 165 rfl b _ 3 rfl #[.int .i64 xa,.int .i64 xb,.int .i64 xc] (Tryz.isAgg165 _) (Tryz.sizeOf165 _) rfl (fun j u hj=>by have:=HC.out j u hj;simpa using this) ?_;refine yp ?_)|(refine jz rfl (fun _ h=>by cases h) ?_;((with_reducible refine zz ?_);refine ld1 k rfl rfl .a0 (by rfl) ?_);refine yp ?_)|(refine qZ rfl rfl rfl (by with_reducible rfl) ?_;refine jz rfl (fun _ h=>by cases h) ?_;fail;refine yp ?_))
      exact⟨⟨kk+1,_,by omega,gZ _,rfl,by go_num,zj ⟨HJ3.out,HS3.out⟩⟩,by simp[intOf];omega⟩
     |false=>
      have HBF:=zj (hbf rfl);clear hbt hbf
      gi_wp2_with fail
      exact bodyPost_ret (Go.results_none rfl _ _ _) rfl ⟨⟨_,rfl⟩,.inr HBF.out⟩
    ·have dqa:decide (q<xa)=false:=decide_eq_false hqa
     gi_wp2_with (first|(refine skip_w rfl rfl rfl (by with_reducible rfl) rfl ?_)|(refine jz rfl (fun _ h=>by cases h) ?_;refine zZ rfl (.tmp 17) 165 rfl b _ 3 rfl #[.int .i64 xa,.int .i64 xb,.int .i64 xc] (Tryz.isAgg165 _) (Tryz.sizeOf165 _) rfl (fun j u hj=>by have:=HC.out j u hj;simpa using this) ?_;refine yp ?_)|(refine jz rfl (fun _ h=>by cases h) ?_;(first|((with_reducible refine zz ?_);refine ld1 k rfl rfl .a0 (by rfl) ?_)|((with_reducible refine zx ?_);refine soa k rfl rfl rfl .a0 (by rfl) (by rfl) (zm rfl) ?_;clear k;intro W k)|((with_reducible refine zf ?_);refine ala k Tryz.zeroValue165 ?_;clear k;intro b165 X W k));refine yp ?_)|(refine qZ rfl rfl rfl (by with_reducible rfl) ?_;refine jz rfl (fun _ h=>by cases h) ?_;fail;refine yp ?_))
     have hb:=k.out.end;exact⟨⟨kk+1,_,by omega,gZ _,rfl,by go_num,zj ⟨HJ2.out _ _ hJ.out.1 hb,(zb _ _ _).below HSL.out hb⟩⟩,by simp[intOf];omega⟩
   ·obtain rfl:kk=H.length+1:=by omega
    have zlt: ¬(((H.length+1:Nat):Int)<(H.length:Int)+1):=by omega
    gi_wp2_with fail
    exact bodyPost_end (Go.results_none rfl _ _ _) rfl ⟨⟨_,rfl⟩,.inl hJ.out.1⟩
 ·go_wp2_with((with_reducible refine qY ?_);refine qp k jl rfl rfl rfl rfl rfl (by decide) (by decide) ?_;clear k;intro b X W2 k)
  have hkr:=k.out.blk (i:=0) rfl;replace k:=zj (k.out.drop (n:=1));refine zd (yz ⟨_,k.out⟩) ?_;refine w1 2 2 (by kernel_rfl) rfl ?_;go_wp2_with fail;refine(clipSpan_any A _ c _ hc).mono ?_;rintro e W1 ⟨rfl,rfl⟩;go_wp2_with fail;refine zd (yz ⟨_,k.out⟩) ?_;refine w1 7 1 (by kernel_rfl) rfl ?_;have hfT:=k.out.fact.2;have hwz:=k.out.only.size;go_wp2_with((with_reducible refine jZ ?_);refine jv jl (by decide) rfl (.tmp 8) (.tmp 12) rfl _ H [#[.int .i64 hsz,.int .i64 0,.int .i64 0]] _ (fun _=>False) rfl (sl_cap hfT (Nat.le_refl _) hc) _ rfl (qU hkr rfl (Nat.le_refl 1) (by unfold maxLen;omega)) (by intro r hr;rw[List.mem_singleton.1 hr];exact zm rfl) (by simp) (by simp;omega) (by omega) ?_;intro v3 W3 hown3 hb3);obtain⟨A2,c2,rfl,_⟩:=yb hown3;have hrow:Sl 3 _ (H++ [#[.int .i64 hsz,.int .i64 0,.int .i64 0]]) (fun b=>b<=N+1) W3:=zV hown3 (xl (fun q hq=>(HH.out q hq).size) rfl) (fun b hb=>by have hb':b<=N+1:=hb;omega);replace k:=zj (k.out.call hb3);clear hown3 hb3 hfT hkr hwz;refine zd (yz ⟨_,k.out⟩) ?_;refine zq [(8,some 14,[])] [?v3_8] 0 (by kernel_rfl) ⟨_,k.out⟩ ?l3 ?h3;case l3=>
   intro w' hSw;refine lkw rfl rfl (by rfl) ?_ ?_
   ·go_simp<;>with_reducible rfl
   try simp only[Act.put,tS,t0,t1]
   trivial
  simp only[zw,zk,Act.put,tS,t0,t1];refine zv (by kernel_rfl) ?_ _;clear HPer;have HJW:=zj (HJ2.out _ _ H0.out k.out.end);have hlen:(H++ [#[Value.int .i64 hsz,Value.int .i64 0,Value.int .i64 0]]).length=H.length+1:=by simp
  have HSP:Hid (∀q∈H++ [#[Value.int .i64 hsz,Value.int .i64 0,Value.int .i64 0]],Ty vv q):=xl HH.out hspz;rw[hlen] at hrow;have HROW:=Lib.hid hrow;clear k hrow hspz;generalize H++ [#[Value.int .i64 hsz,Value.int .i64 0,Value.int .i64 0]]=H2 at HROW HSP hlen⊢;have HLEN:=Lib.hid hlen;clear hlen
  gi_wp2_with fail
  gi_loopw [3,15] (fun p i wr=> ∃(kk:Nat) (q:Int),kk<=H.length+1/\(-9223372036854775808<=q/\q<=9223372036854775807)/\p= .int .i64 q/\i= .int .i64 kk/\Hid (J wr/\Sl 3 (.slice A2 (H.length+1) c2) H2 (fun b=>b<=N+1) wr)) (fun _ i _=>H.length+1-(intOf i).toNat)
  case atStart=>exact⟨0,0,Nat.zero_le _,by omega,rfl,rfl,zj ⟨HJW.out,HROW.out⟩⟩
  case round=>
   obtain⟨kk,q,hk,hq,rfl,rfl,hJ⟩:=hrel;by_cases hlt:kk<H.length+1
   ·have zlt:(kk:Int)<(H.length:Int)+1:=by omega
    have zl2:(kk:Int)<(H2.length:Int):=by have:=HLEN.out;omega
    obtain⟨r,hr⟩: ∃r,H2[kk]? =some r:=⟨H2[kk]'(by have:=HLEN.out;omega),List.getElem?_eq_getElem _⟩;have hrt:=HSP.out r (List.mem_of_getElem? hr);obtain⟨xa,xb,xc,rfl⟩:=span_lit hrt;have hsl:=hJ.out.2;obtain⟨b,o,rfl,hbs,hbX,_,hcell⟩:=hsl.row hr (by decide);have HC:=Lib.hid hcell;have HSL:=Lib.hid hsl;clear hsl hcell hr hrt;have k:Hid (St (fun _=>False) (fun _=>False) wr [] (fun _ _=>True) (fun _=>False) wr):=St.begin (fun _ h=>h.elim) trivial xZ;by_cases hqa:q<xa
    ·have dqa:decide (q<xa)=true:=decide_eq_true hqa
     gi_wp2_with (first|(refine skip_w rfl rfl rfl (by with_reducible rfl) rfl ?_)|(refine jz rfl (fun _ h=>by cases h) ?_;refine zZ rfl (.tmp 17) 165 rfl b _ 3 rfl #[.int .i64 xa,.int .i64 xb,.int .i64 xc] (Tryz.isAgg165 _) (Tryz.sizeOf165 _) rfl (fun j u hj=>by have:=HC.out j u hj;simpa using this) ?_;refine yp ?_)|(refine jz rfl (fun _ h=>by cases h) ?_;(first|((with_reducible refine zz ?_);refine ld1 k rfl rfl .a0 (by rfl) ?_)|((with_reducible refine zx ?_);refine soa k rfl rfl rfl .a0 (by rfl) (by rfl) (zm rfl) ?_;clear k;intro W k)|((with_reducible refine zf ?_);refine ala k Tryz.zeroValue165 ?_;clear k;intro b165 X W k));refine yp ?_)|(refine qZ rfl rfl rfl (by with_reducible rfl) ?_;refine jz rfl (fun _ h=>by cases h) ?_;((with_reducible refine zz ?_);refine ld1 k rfl rfl .a0 (by rfl) ?_);refine yp ?_))
     have hb:=k.out.end;have hJ2':=HJ2.out _ _ hJ.out.1 hb;have hsl2:=(zb _ _ _).below HSL.out hb;have hbk:=k.out.blk (i:=0) rfl;have hbn:=(k.out.box (i:=0) rfl).2.1;have hnw:=(HJ1.out _ hJ.out.1).2.2;have HB5:=Lib.hid hbk;obtain⟨fn,tmps,assign,body,hyl,hR⟩:=HY.out q (wrap64 (xa-q)) W hq hJ2';have HRd:=zj hR;rw[hyl];clear hR hyl;refine⟨(fun h=>by cases h),?_⟩;refine HRd.out.mono ?_;rintro e W3 ⟨bb,rfl,hbt,hbf⟩;cases bb with
     |true=>
      obtain⟨hJ3,ho3⟩:=hbt rfl;have hsl3:=(zb _ _ _).step hsl2 ho3;have hbk3:Blk W3 b165 _ 165:=(ho3.block b165 HB5.out.lt (fun h=>hbn (by omega))).trans HB5.out;clear k hb hJ2' hsl2 hbk HB5 hbt hbf ho3 HRd;have HS3:=Lib.hid hsl3;have HJ3:=zj hJ3;have k:Hid (St (fun k=>k=b165) (fun b=>b=b165) W3 [(b165,#[.int .i64 xa,.int .i64 xb,.int .i64 xc],165)] (fun _ _=>True) (fun b=>b=b165) W3):=St.begin1 (fun b hb=>by have e:b=b165:=hb;rw[e];exact hbk3.lt) rfl hbk3 trivial xZ;clear hsl3 hJ3 hbk3
      gi_wp2_with (first|(refine skip_w rfl rfl rfl (by with_reducible rfl) rfl ?_)|(refine jz rfl (fun _ h=>by cases h) ?_;refine zZ rfl (.tmp 17) 165 rfl b _ 3 rfl #[.int .i64 xa,.int .i64 xb,.int .i64 xc] (Tryz.isAgg165 _) (Tryz.sizeOf165 _) rfl (fun j u hj=>by have:=HC.out j u hj;simpa using this) ?_;refine yp ?_)|(refine jz rfl (fun _ h=>by cases h) ?_;((with_reducible refine zz ?_);refine ld1 k rfl rfl .a0 (by rfl) ?_);refine yp ?_)|(refine qZ rfl rfl rfl (by with_reducible rfl) ?_;refine jz rfl (fun _ h=>by cases h) ?_;fail;refine yp ?_))
      exact⟨⟨kk+1,_,by omega,gZ _,rfl,by go_num,zj ⟨HJ3.out,HS3.out⟩⟩,by simp[intOf];omega⟩
     |false=>
      have HBF:=zj (hbf rfl);clear hbt hbf
      gi_wp2_with fail
      exact bodyPost_ret (Go.results_none rfl _ _ _) rfl ⟨⟨_,rfl⟩,.inr HBF.out⟩
    ·have dqa:decide (q<xa)=false:=decide_eq_false hqa
     gi_wp2_with (first|(refine skip_w rfl rfl rfl (by with_reducible rfl) rfl ?_)|(refine jz rfl (fun _ h=>by cases h) ?_;refine zZ rfl (.tmp 17) 165 rfl b _ 3 rfl #[.int .i64 xa,.int .i64 xb,.int .i64 xc] (Tryz.isAgg165 _) (Tryz.sizeOf165 _) rfl (fun j u hj=>by have:=HC.out j u hj;simpa using this) ?_;refine yp ?_)|(refine jz rfl (fun _ h=>by cases h) ?_;(first|((with_reducible refine zz ?_);refine ld1 k rfl rfl .a0 (by rfl) ?_)|((with_reducible refine zx ?_);refine soa k rfl rfl rfl .a0 (by rfl) (by rfl) (zm rfl) ?_;clear k;intro W k)|((with_reducible refine zf ?_);refine ala k Tryz.zeroValue165 ?_;clear k;intro b165 X W k));refine yp ?_)|(refine qZ rfl rfl rfl (by with_reducible rfl) ?_;refine jz rfl (fun _ h=>by cases h) ?_;fail;refine yp ?_))
     have hb:=k.out.end;exact⟨⟨kk+1,_,by omega,gZ _,rfl,by go_num,zj ⟨HJ2.out _ _ hJ.out.1 hb,(zb _ _ _).below HSL.out hb⟩⟩,by simp[intOf];omega⟩
   ·obtain rfl:kk=H.length+1:=by omega
    have zlt: ¬(((H.length+1:Nat):Int)<(H.length:Int)+1):=by omega
    gi_wp2_with fail
    exact bodyPost_end (Go.results_none rfl _ _ _) rfl ⟨⟨_,rfl⟩,.inl hJ.out.1⟩
end
end Go.Proofs.YtaccidkgnkmagaaGreatDoor.Top
