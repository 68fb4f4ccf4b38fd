/-
  Walks and laws of the whole machine: Seat, Seat2. Conditions: each theorem names its own.
-/
import Derived.Test.YtaccidkgnkmagaaGreatDoorTs21
set_option maxRecDepth 16000
set_option maxHeartbeats 12800000
set_option linter.unusedVariables false
set_option linter.unusedSimpArgs false
namespace Go.Proofs.YtaccidkgnkmagaaGreatDoor.Top
section
open Go.RowKit Go.Proofs.YtaccidkgnkmagaaGreatDoor.Isa
def SC(x:Kn)(st bo:Int):Array Value:= #[x.vP,x.vT,.int .i64 x.left,x.vS,x.vPi,.int .i64 x.hsz,x.vH,.int .u64 x.now,x.vIm,x.vOu,x.vIs,x.vBx,.string x.cons,x.vTr,x.vSe,.int .i64 x.want,.int .i64 x.gone,.int .i64 st,.int .i64 bo]
def WC(x:Kn)(st bo p a0 a1 a2:Int):Array Value:= #[x.vP,x.vT,.int .i64 x.left,x.vS,x.vPi,.int .i64 x.hsz,x.vH,.int .u64 x.now,x.vIm,x.vOu,x.vIs,x.vBx,.string x.cons,x.vTr,x.vSe,.int .i64 x.want,.int .i64 x.gone,.int .i64 st,.int .i64 bo,.int .i64 p,.int .i64 a0,.int .i64 a1,.int .i64 a2]
theorem Zb{x:Kn}{X:Nat->Prop}{W:World}(h:KSl x X W)(st bo:Int):yZ (SC x st bo):=by
 intro v hv;have h1:=vY h;simp only[SC,List.mem_cons,List.not_mem_nil,or_false] at hv;have hk: ∀u,u∈(KC x).toList->u.oneCell'=true:=h1;simp only[KC,List.mem_cons,List.not_mem_nil,or_false] at hk;rcases hv with h|h|h|h|h|h|h|h|h|h|h|h|h|h|h|h|h|h|h
 all_goals first
  |(subst h;rfl)
  |exact hk v (by simp[h])
structure LookR (n s:Nat) (x:Kn) (st bo a0:Int) (x':Kn) (st' bo':Int):Prop where
 ok:KOk (n+2) s 8 x'
 Im:x'.Im=x.Im
 Ou:x'.Ou=x.Ou
 Is:x'.Is=x.Is
 now:x'.now=x.now
 Tr:x'.Tr=x.Tr
 hst:st'=st\/st'=3
 halt:st=3->st'=3
 hbo:bo<=bo' /\bo'<=bo+1
 same:x.gone=1->a0=1->x'=x/\st'=st
theorem LookR.refl{n s:Nat}{x:Kn}{st bo a0:Int}(h:KOk n s 8 x):LookR n s x st bo a0 x st bo:=
 ⟨h.mono (by omega) (Nat.le_refl _) (Nat.le_refl _),rfl,rfl,rfl,rfl,rfl,.inl rfl,fun h=>h,⟨Int.le_refl _,by omega⟩,fun _ _=>⟨rfl,rfl⟩⟩
def LooksR(bk n s:Nat)(x:Kn)(st bo p a0 a1 a2:Int)(X:Nat->Prop)(w:World)(e:Ending)(w':World):Prop:=
 ∃(x':Kn) (st' bo':Int),e= .returned (.tuple #[])/\LookR n s x st bo a0 x' st' bo' /\KSl x' X w' /\Below w.heap.size (w.setRow bk (WC x' st' bo' p a0 a1 a2)) w'
theorem look_halt{n s:Nat}{x:Kn}{st bo a0:Int}(h:KOk n s 8 x)(hs:x.gone=1->a0=1->x=x/\3=st):LookR n s x st bo a0 x 3 bo:=
 ⟨h.mono (by omega) (Nat.le_refl _) (Nat.le_refl _),rfl,rfl,rfl,rfl,rfl,.inr rfl,fun _=>rfl,⟨Int.le_refl _,by omega⟩,hs⟩
theorem look_reset{n s:Nat}{x x2:Kn}{st bo a0:Int}(h:KOk n s 8 x)(b:KOk (n+2) s 8 x2/\x2.Im=x.Im/\x2.Ou=x.Ou/\x2.Is=x.Is/\x2.now=x.now)(hs:x.gone=1->a0=1->{x2 with vBx:=x.vBx,Bx:=x.Bx,cons:=x.cons,vTr:=x.vTr,Tr:=x.Tr,vSe:=x.vSe,Se:=x.Se,want:=x.want}=x/\st=st):
  LookR n s x st bo a0 {x2 with vBx:=x.vBx,Bx:=x.Bx,cons:=x.cons,vTr:=x.vTr,Tr:=x.Tr,vSe:=x.vSe,Se:=x.Se,want:=x.want} st (bo+1):=by
 obtain⟨h2,e1,e2,e3,e4⟩:=b;have h':=h.mono (show n<=n+2 by omega) (Nat.le_refl s) (Nat.le_refl 8);exact⟨{h2 with Bxl:=h.Bxl.trans (by rw[<-e3]),Tr:=e4▸h'.Tr,Se:=h.Se,Sel:=h.Sel,cons:=h'.cons,want:=h.want},e1,e2,e3,e4,rfl,.inl rfl,fun h=>h,⟨by omega,Int.le_refl _⟩,hs⟩
theorem St.lpost{bk n s:Nat}{x x':Kn}{st bo st' bo' p a0 a1 a2:Int}{X0 X:Nat->Prop}{w0 W:World}{bs:List (Nat×Array Value×TypeId)}{G:(Nat->Prop)->World->Prop}
  (k:St (fun k=>k=bk) X0 w0 bs G X W) (i:Nat) (hi:bs[i]? =some (bk,WC x' st' bo' p a0 a1 a2,99)) (hw:Blk w0 bk (WC x st bo p a0 a1 a2) 99) (hs:KSl x' X W) (hR:LookR n s x st bo a0 x' st' bo'):LooksR bk n s x st bo p a0 a1 a2 X0 w0 (.returned (.tuple #[])) W:=
 ⟨x',st',bo',rfl,hR,(zO x').sub k.sup hs,setRow_ext hw k.only (k.blk hi)⟩
theorem looks_any(bk n s:Nat)(x:Kn)(st bo p a0 a1 a2:Int)(X0:Nat->Prop)(w:World)(hblk:Blk w bk (WC x st bo p a0 a1 a2) 99)(hmem:X0 bk)(hX: ∀b,X0 b->b<w.heap.size)(hsl:KSl x X0 w)(hok:KOk n s 8 x)(hp0: -9223372036854775808<=p)(hp1:p<=9223372036854775807)(hb0:0<=bo)(hb1:bo<=1000000)(hn:n+2<=1000000)(hs:s<=1000000)(hI6:x.Im.length<=10000000):
  Calls Tryz.prog 35 #[.pointer (some ⟨bk,0,none⟩)] w (LooksR bk n s x st bo p a0 a1 a2 X0 w):=by
 have k:Hid (St (fun k=>k=bk) X0 w [(bk,WC x st bo p a0 a1 a2,99)] (KSl x) X0 w):=St.begin1 hX hmem hblk hsl (zO x);have OK:=Lib.hid hok;have HB:=Lib.hid hblk;clear hok hblk hmem hX hsl;by_cases hg0:x.gone=0
 ·go_enter Tryz.func35,Tryz.ntmps35
  go_wp2_with((with_reducible refine zz ?_);refine ld1 k rfl rfl .a0 (by rfl) ?_);exact bodyPost_ret (results_none rfl _) rfl (k.out.lpost 0 rfl HB.out k.out.fact (LookR.refl OK.out))
 have dg0:(x.gone==0)=false:=by rw[beq_eq_false_iff_ne];exact hg0
 by_cases hs3:st=3
 ·subst hs3
  go_enter Tryz.func35,Tryz.ntmps35;go_wp2_with(first|((with_reducible refine zp ?_);first|refine zg rfl rfl rfl (by with_reducible rfl) ?_)|((with_reducible refine zz ?_);refine ld1 k rfl rfl .a0 (by rfl) ?_));exact bodyPost_ret (results_none rfl _) rfl (k.out.lpost 0 rfl HB.out k.out.fact (LookR.refl OK.out))
 have ds3:(st==3)=false:=by rw[beq_eq_false_iff_ne];exact hs3
 have hwr0:IntKind.i64.wrap 0=0:=by decide
 have hwr1:IntKind.i64.wrap 1=1:=by decide
 have hwr2:IntKind.i64.wrap 2=2:=by decide
 by_cases hg1:x.gone=1
 ·go_enter Tryz.func35,Tryz.ntmps35
  go_upto_region 3 with(first|((with_reducible refine zp ?_);first|refine zg rfl rfl rfl (by with_reducible rfl) ?_)|((with_reducible refine zz ?_);refine ld1 k rfl rfl .a0 (by rfl) ?_))
  have HPer:=Lib.hid k.out.per;refine zt k 14 14 (by kernel_rfl) rfl ?_;clear k;intro W k;refine zq [(0,some 35,[]),(1,some 36,[]),(2,some 37,[]),(3,some 38,[]),(4,some 39,[]),(5,some 40,[]),(6,some 41,[]),(7,some 42,[]),(8,some 43,[]),(9,some 44,[]),(10,some 45,[]),(11,some 46,[]),(12,some 47,[]),(13,some 2,[])] [?v1_0,?v1_1,?v1_2,?v1_3,?v1_4,?v1_5,?v1_6,?v1_7,?v1_8,?v1_9,?v1_10,?v1_11,?v1_12,?v1_13] 0 (by kernel_rfl) ⟨_,k.out⟩ ?l1 ?h1;case l1=>
   intro w' hSw;iterate 14
    refine lkw rfl rfl (by rfl) ?_ ?_
    ·first|((with_reducible refine yw ?_);first|exact hSw.l1 rfl rfl .a0 (by rfl))|(go_simp<;>with_reducible rfl)
    try simp only[Act.put,tS,t0,t1]
   trivial
  simp only[zw,zk,Act.put,tS,t0,t1];refine zv (by kernel_rfl) ?_ _;clear HPer;by_cases hA2:a0=2
  ·subst hA2
   go_upto_block 0 with fail
   refine zy (fun Q0 hq0=> ?_);first|(refine wp_seq_k (fun K4 hk4=> ?_);refine zy (fun Q4 hq4=> ?_))|refine zy (fun Q4 hq4=> ?_)
   first|(refine wp_seq_k (fun K3 hk3=> ?_);refine zy (fun Q3 hq3=> ?_))|refine zy (fun Q3 hq3=> ?_)
   first|(refine wp_seq_k (fun K2 hk2=> ?_);refine zy (fun Q2 hq2=> ?_))|refine zy (fun Q2 hq2=> ?_)
   first|(refine wp_seq_k (fun K1 hk1=> ?_);refine zy (fun Q1 hq1=> ?_))|refine zy (fun Q1 hq1=> ?_)
   go_wp2_with((with_reducible refine zx ?_);refine so1 k rfl rfl rfl (by rfl) .a0 (by rfl) rfl ?_;clear k;intro W k);exact bodyPost_ret (results_none rfl _) rfl (k.out.lpost (st':=3) (bo':=bo) (x':=x) 0 rfl HB.out k.out.fact (look_halt OK.out (fun h1 h2=>absurd h2 (by decide))))
  ·by_cases hA3:a0=3
   ·subst hA3
    go_upto_block 0 with fail
    refine zy (fun Q0 hq0=> ?_);first|(refine wp_seq_k (fun K4 hk4=> ?_);refine zy (fun Q4 hq4=> ?_))|refine zy (fun Q4 hq4=> ?_)
    first|(refine wp_seq_k (fun K3 hk3=> ?_);refine zy (fun Q3 hq3=> ?_))|refine zy (fun Q3 hq3=> ?_)
    first|(refine wp_seq_k (fun K2 hk2=> ?_);refine zy (fun Q2 hq2=> ?_))|refine zy (fun Q2 hq2=> ?_)
    first|(refine wp_seq_k (fun K1 hk1=> ?_);refine zy (fun Q1 hq1=> ?_))|refine zy (fun Q1 hq1=> ?_)
    go_upto_region 10 with(first|((with_reducible refine zz ?_);refine ldp k rfl rfl .a0 (D:=KC x) (by rfl) (by rfl) ?_)|((with_reducible refine zx ?_);refine soa k rfl rfl rfl .a0 (by rfl) (by rfl) (vY k.out.fact) ?_;clear k;intro W k)|((with_reducible refine zf ?_);refine ala k Tryz.zeroValue56 ?_;clear k;intro b56 X W k))
    replace k:Hid (St _ _ _ [(_,KC x,_),(_,WC x st bo p _ _ _,_)] _ _ _):=k;have HPer:=Lib.hid k.out.per;refine zt k 18 19 (by kernel_rfl) rfl ?_;clear k;intro W k;refine zq [(0,some 64,[18]),(1,some 65,[18]),(2,some 66,[18]),(3,some 67,[18]),(4,some 68,[18]),(5,some 69,[18]),(6,some 70,[18]),(7,some 71,[18]),(8,some 72,[18]),(9,some 73,[18]),(10,some 74,[18]),(11,some 75,[18]),(12,some 76,[18]),(13,some 77,[18])] [?v2_0,?v2_1,?v2_2,?v2_3,?v2_4,?v2_5,?v2_6,?v2_7,?v2_8,?v2_9,?v2_10,?v2_11,?v2_12,?v2_13] 5 (by kernel_rfl) ⟨_,k.out⟩ ?l2 ?h2;case l2=>
     intro w' hSw;iterate 14
      refine lkw rfl rfl (by rfl) ?_ ?_
      ·first|((with_reducible refine yw ?_);first|exact hSw.l1 rfl rfl (by repeat constructor) (by rfl))|(go_simp<;>with_reducible rfl)
      try simp only[Act.put,tS,t0,t1]
     trivial
    simp only[zw,zk,Act.put,tS,t0,t1];refine w1 14 4 (by kernel_rfl) rfl ?_;go_wp2_with fail;refine(boot_any p x.vIm x.Im x.vOu x.Ou x.vIs x.Is x.now n s 8 _ _ k.out.lt ⟨k.out.fact.Im,k.out.fact.Ou,k.out.fact.Is⟩ OK.out.Im OK.out.Ou OK.out.Is hI6 OK.out.Oul OK.out.Isl OK.out.now.1 OK.out.now.2 hp0 hp1 hn hs (by omega)).mono ?_;rintro e W1 ⟨x2,rfl,hsl2,hok2,him2,hou2,his2,hno2,htr2,hwa2,hid2,hb⟩;have hoK2:yZ (KC x2):=vY hsl2;have BR:Hid (KOk (n+2) s 8 x2/\x2.Im=x.Im/\x2.Ou=x.Ou/\x2.Is=x.Is/\x2.now=x.now):=⟨hok2,him2,hou2,his2,hno2⟩;replace k:=zj (k.out.call hb);clear hb hok2 him2 hou2 his2 hno2 htr2 hwa2 hid2;go_wp2_with fail;refine zd (yz ⟨_,k.out⟩) ?_;refine zq [(15,some 79,[16,17,18]),(16,some 80,[17,18]),(17,some 81,[18])] [?v3_15,?v3_16,?v3_17] 1 (by kernel_rfl) ⟨_,k.out⟩ ?l3 ?h3;case l3=>
     intro w' hSw;iterate 3
      refine lkw rfl rfl (by rfl) ?_ ?_
      ·go_simp<;>with_reducible rfl
      try simp only[Act.put,tS,t0,t1]
     trivial
    simp only[zw,zk,Act.put,tS,t0,t1];refine w1 18 0 (by kernel_rfl) rfl ?_;replace k:=zj (k.out.add hsl2 (zO _));clear hsl2;go_wp2_with((with_reducible refine zx ?_);refine sop k rfl rfl rfl .a1 (by rfl) (by rfl) hoK2 (E:=WC x2 st bo p _ _ _) (by rfl) ?_;clear k;intro W k);refine zd (zJ rfl) ?_;refine zv (by kernel_rfl) ?_ _;clear HPer;replace k:Hid (St _ _ _ [(_,KC x,_),(_,WC x2 st bo p _ _ _,_)] _ _ _):=k
    go_upto_region 11 with fail
    have HPer:=Lib.hid k.out.per;refine xj k 1 23 rfl rfl 40 40 (by kernel_rfl) rfl ?_;clear k;intro W k;refine zq [(0,some 82,[]),(1,some 83,[]),(2,some 84,[]),(3,some 85,[]),(4,some 86,[]),(5,some 87,[]),(6,some 88,[]),(7,some 89,[]),(8,some 90,[]),(9,some 91,[]),(10,some 92,[]),(11,some 93,[]),(12,some 94,[]),(13,some 95,[]),(14,some 96,[]),(15,some 97,[]),(16,some 98,[]),(17,some 99,[]),(18,some 100,[])] [?v4_0,?v4_1,?v4_2,?v4_3,?v4_4,?v4_5,?v4_6,?v4_7,?v4_8,?v4_9,?v4_10,?v4_11,?v4_12,?v4_13,?v4_14,?v4_15,?v4_16,?v4_17,?v4_18] 21 (by kernel_rfl) (.of rfl rfl rfl k.out) ?l4 ?h4;case l4=>
     intro w' hSw;obtain⟨_,_,_,_,_,_,hSw⟩:=hSw;iterate 19
      refine lkw rfl rfl (by rfl) ?_ ?_
      ·first|((with_reducible refine yw ?_);first|exact hSw.l1 rfl rfl .a0 (by rfl))|(go_simp<;>with_reducible rfl)
      try simp only[Act.put,tS,t0,t1]
     trivial
    simp only[zw,zk,Act.put,tS,t0,t1];refine w1 19 20 (by kernel_rfl) rfl ?_;go_wp2_with((with_reducible refine zx ?_);refine so1 k rfl rfl rfl k.out.fact.1.Bx.one .a1 (by rfl) (E:=WC {x2 with vBx:=x.vBx} st bo p _ _ _) (by rfl) ?_;clear k;intro W k);refine zd (yz (.of rfl rfl rfl k.out)) ?_;refine zq [(20,some 101,[]),(21,some 102,[]),(22,some 103,[]),(23,some 104,[])] [?v5_20,?v5_21,?v5_22,?v5_23] 16 (by kernel_rfl) (.of rfl rfl rfl k.out) ?l5 ?h5;case l5=>
     intro w' hSw;obtain⟨_,_,_,_,_,_,hSw⟩:=hSw;iterate 4
      refine lkw rfl rfl (by rfl) ?_ ?_
      ·go_simp<;>with_reducible rfl
      try simp only[Act.put,tS,t0,t1]
     trivial
    simp only[zw,zk,Act.put,tS,t0,t1];refine w1 24 15 (by kernel_rfl) rfl ?_;go_wp2_with((with_reducible refine zx ?_);refine so1 k rfl rfl rfl rfl .a1 (by rfl) (E:=WC {x2 with vBx:=x.vBx,cons:=x.cons} st bo p _ _ _) (by rfl) ?_;clear k;intro W k);refine zd (yz (.of rfl rfl rfl k.out)) ?_;refine zq [(25,some 105,[]),(26,some 106,[]),(27,some 107,[]),(28,some 108,[])] [?v6_25,?v6_26,?v6_27,?v6_28] 11 (by kernel_rfl) (.of rfl rfl rfl k.out) ?l6 ?h6;case l6=>
     intro w' hSw;obtain⟨_,_,_,_,_,_,hSw⟩:=hSw;iterate 4
      refine lkw rfl rfl (by rfl) ?_ ?_
      ·go_simp<;>with_reducible rfl
      try simp only[Act.put,tS,t0,t1]
     trivial
    simp only[zw,zk,Act.put,tS,t0,t1];refine w1 29 10 (by kernel_rfl) rfl ?_;go_wp2_with((with_reducible refine zx ?_);refine so1 k rfl rfl rfl k.out.fact.1.Tr.one .a1 (by rfl) (E:=WC {x2 with vBx:=x.vBx,cons:=x.cons,vTr:=x.vTr} st bo p _ _ _) (by rfl) ?_;clear k;intro W k);refine zd (yz (.of rfl rfl rfl k.out)) ?_;refine zq [(30,some 109,[]),(31,some 110,[]),(32,some 111,[]),(33,some 112,[])] [?v7_30,?v7_31,?v7_32,?v7_33] 6 (by kernel_rfl) (.of rfl rfl rfl k.out) ?l7 ?h7;case l7=>
     intro w' hSw;obtain⟨_,_,_,_,_,_,hSw⟩:=hSw;iterate 4
      refine lkw rfl rfl (by rfl) ?_ ?_
      ·go_simp<;>with_reducible rfl
      try simp only[Act.put,tS,t0,t1]
     trivial
    simp only[zw,zk,Act.put,tS,t0,t1];refine w1 34 5 (by kernel_rfl) rfl ?_;go_wp2_with((with_reducible refine zx ?_);refine so1 k rfl rfl rfl k.out.fact.1.Se.one .a1 (by rfl) (E:=WC {x2 with vBx:=x.vBx,cons:=x.cons,vTr:=x.vTr,vSe:=x.vSe} st bo p _ _ _) (by rfl) ?_;clear k;intro W k);refine zd (yz (.of rfl rfl rfl k.out)) ?_;refine zq [(35,some 113,[]),(36,some 114,[]),(37,some 115,[]),(38,some 116,[])] [?v8_35,?v8_36,?v8_37,?v8_38] 1 (by kernel_rfl) (.of rfl rfl rfl k.out) ?l8 ?h8;case l8=>
     intro w' hSw;obtain⟨_,_,_,_,_,_,hSw⟩:=hSw;iterate 4
      refine lkw rfl rfl (by rfl) ?_ ?_
      ·go_simp<;>with_reducible rfl
      try simp only[Act.put,tS,t0,t1]
     trivial
    simp only[zw,zk,Act.put,tS,t0,t1];refine w1 39 0 (by kernel_rfl) rfl ?_;go_wp2_with((with_reducible refine zx ?_);refine so1 k rfl rfl rfl rfl .a1 (by rfl) (E:=WC {x2 with vBx:=x.vBx,cons:=x.cons,vTr:=x.vTr,vSe:=x.vSe,want:=x.want} st bo p _ _ _) (by rfl) ?_;clear k;intro W k);refine zd (yz (.of rfl rfl rfl k.out)) ?_;refine zv (by kernel_rfl) ?_ _;clear HPer;replace k:=zj (k.out.turn (H:=KSl {x2 with vBx:=x.vBx,Bx:=x.Bx,cons:=x.cons,vTr:=x.vTr,Tr:=x.Tr,vSe:=x.vSe,Se:=x.Se,want:=x.want}) (fun h=>{h.2 with Bx:=h.1.Bx,Tr:=h.1.Tr,Se:=h.1.Se,bx:=h.1.bx}) (zO _));replace k:Hid (St _ _ _ [(_,KC x,_),(_,WC {x2 with vBx:=x.vBx,Bx:=x.Bx,cons:=x.cons,vTr:=x.vTr,Tr:=x.Tr,vSe:=x.vSe,Se:=x.Se,want:=x.want} st bo p _ _ _,_)] _ _ _):=k;have hbw:IntKind.i64.wrap (bo+1)=bo+1:=xg (by omega) (by omega);go_wp2_with(first|((with_reducible refine zz ?_);refine ld1 k rfl rfl .a1 (by rfl) ?_)|((with_reducible refine zx ?_);refine so1 k rfl rfl rfl (by rfl) .a1 (by rfl) rfl ?_;clear k;intro W k));exact bodyPost_ret (results_none rfl _) rfl (k.out.lpost (st':=st) (bo':=bo+1) (x':={x2 with vBx:=x.vBx,Bx:=x.Bx,cons:=x.cons,vTr:=x.vTr,Tr:=x.Tr,vSe:=x.vSe,Se:=x.Se,want:=x.want}) 1 rfl HB.out k.out.fact (look_reset OK.out BR.out (fun h1 h2=>absurd h2 (by decide))))
   ·have d2:(a0==2)=false:=by rw[beq_eq_false_iff_ne];exact hA2
    have d3:(a0==3)=false:=by rw[beq_eq_false_iff_ne];exact hA3
    by_cases hA1:a0=1
    ·have d1:(a0==1)=true:=by rw[beq_iff_eq];exact hA1
     go_upto_block 0 with fail
     refine zy (fun Q0 hq0=> ?_);first|(refine wp_seq_k (fun K4 hk4=> ?_);refine zy (fun Q4 hq4=> ?_))|refine zy (fun Q4 hq4=> ?_)
     first|(refine wp_seq_k (fun K3 hk3=> ?_);refine zy (fun Q3 hq3=> ?_))|refine zy (fun Q3 hq3=> ?_)
     first|(refine wp_seq_k (fun K2 hk2=> ?_);refine zy (fun Q2 hq2=> ?_))|refine zy (fun Q2 hq2=> ?_)
     first|(refine wp_seq_k (fun K1 hk1=> ?_);refine zy (fun Q1 hq1=> ?_))|refine zy (fun Q1 hq1=> ?_)
     go_wp2_with fail;exact bodyPost_ret (results_none rfl _) rfl (k.out.lpost 0 rfl HB.out k.out.fact (LookR.refl OK.out))
    ·have d1:(a0==1)=false:=by rw[beq_eq_false_iff_ne];exact hA1
     go_upto_block 0 with fail
     refine zy (fun Q0 hq0=> ?_);first|(refine wp_seq_k (fun K4 hk4=> ?_);refine zy (fun Q4 hq4=> ?_))|refine zy (fun Q4 hq4=> ?_)
     first|(refine wp_seq_k (fun K3 hk3=> ?_);refine zy (fun Q3 hq3=> ?_))|refine zy (fun Q3 hq3=> ?_)
     first|(refine wp_seq_k (fun K2 hk2=> ?_);refine zy (fun Q2 hq2=> ?_))|refine zy (fun Q2 hq2=> ?_)
     first|(refine wp_seq_k (fun K1 hk1=> ?_);refine zy (fun Q1 hq1=> ?_))|refine zy (fun Q1 hq1=> ?_)
     go_wp2_with fail;exact bodyPost_ret (results_none rfl _) rfl (k.out.lpost 0 rfl HB.out k.out.fact (LookR.refl OK.out))
 by_cases hg2:x.gone=2
 ·go_enter Tryz.func35,Tryz.ntmps35
  go_upto_region 3 with(first|((with_reducible refine zp ?_);first|refine zg rfl rfl rfl (by with_reducible rfl) ?_)|((with_reducible refine zz ?_);refine ld1 k rfl rfl .a0 (by rfl) ?_))
  have HPer:=Lib.hid k.out.per;refine zt k 14 14 (by kernel_rfl) rfl ?_;clear k;intro W k;refine zq [(0,some 35,[]),(1,some 36,[]),(2,some 37,[]),(3,some 38,[]),(4,some 39,[]),(5,some 40,[]),(6,some 41,[]),(7,some 42,[]),(8,some 43,[]),(9,some 44,[]),(10,some 45,[]),(11,some 46,[]),(12,some 47,[]),(13,some 2,[])] [?v9_0,?v9_1,?v9_2,?v9_3,?v9_4,?v9_5,?v9_6,?v9_7,?v9_8,?v9_9,?v9_10,?v9_11,?v9_12,?v9_13] 0 (by kernel_rfl) ⟨_,k.out⟩ ?l9 ?h9;case l9=>
   intro w' hSw;iterate 14
    refine lkw rfl rfl (by rfl) ?_ ?_
    ·first|((with_reducible refine yw ?_);first|exact hSw.l1 rfl rfl .a0 (by rfl))|(go_simp<;>with_reducible rfl)
    try simp only[Act.put,tS,t0,t1]
   trivial
  simp only[zw,zk,Act.put,tS,t0,t1];refine zv (by kernel_rfl) ?_ _;clear HPer;by_cases hA2:a1=2
  ·subst hA2
   go_upto_block 0 with fail
   refine zy (fun Q0 hq0=> ?_);first|(refine wp_seq_k (fun K4 hk4=> ?_);refine zy (fun Q4 hq4=> ?_))|refine zy (fun Q4 hq4=> ?_)
   first|(refine wp_seq_k (fun K3 hk3=> ?_);refine zy (fun Q3 hq3=> ?_))|refine zy (fun Q3 hq3=> ?_)
   first|(refine wp_seq_k (fun K2 hk2=> ?_);refine zy (fun Q2 hq2=> ?_))|refine zy (fun Q2 hq2=> ?_)
   first|(refine wp_seq_k (fun K1 hk1=> ?_);refine zy (fun Q1 hq1=> ?_))|refine zy (fun Q1 hq1=> ?_)
   go_wp2_with((with_reducible refine zx ?_);refine so1 k rfl rfl rfl (by rfl) .a0 (by rfl) rfl ?_;clear k;intro W k);exact bodyPost_ret (results_none rfl _) rfl (k.out.lpost (st':=3) (bo':=bo) (x':=x) 0 rfl HB.out k.out.fact (look_halt OK.out (fun h1 h2=>absurd (hg2.symm.trans h1) (by decide))))
  ·by_cases hA3:a1=3
   ·subst hA3
    go_upto_block 0 with fail
    refine zy (fun Q0 hq0=> ?_);first|(refine wp_seq_k (fun K4 hk4=> ?_);refine zy (fun Q4 hq4=> ?_))|refine zy (fun Q4 hq4=> ?_)
    first|(refine wp_seq_k (fun K3 hk3=> ?_);refine zy (fun Q3 hq3=> ?_))|refine zy (fun Q3 hq3=> ?_)
    first|(refine wp_seq_k (fun K2 hk2=> ?_);refine zy (fun Q2 hq2=> ?_))|refine zy (fun Q2 hq2=> ?_)
    first|(refine wp_seq_k (fun K1 hk1=> ?_);refine zy (fun Q1 hq1=> ?_))|refine zy (fun Q1 hq1=> ?_)
    go_upto_region 10 with(first|((with_reducible refine zz ?_);refine ldp k rfl rfl .a0 (D:=KC x) (by rfl) (by rfl) ?_)|((with_reducible refine zx ?_);refine soa k rfl rfl rfl .a0 (by rfl) (by rfl) (vY k.out.fact) ?_;clear k;intro W k)|((with_reducible refine zf ?_);refine ala k Tryz.zeroValue56 ?_;clear k;intro b56 X W k))
    replace k:Hid (St _ _ _ [(_,KC x,_),(_,WC x st bo p _ _ _,_)] _ _ _):=k;have HPer:=Lib.hid k.out.per;refine zt k 18 19 (by kernel_rfl) rfl ?_;clear k;intro W k;refine zq [(0,some 64,[18]),(1,some 65,[18]),(2,some 66,[18]),(3,some 67,[18]),(4,some 68,[18]),(5,some 69,[18]),(6,some 70,[18]),(7,some 71,[18]),(8,some 72,[18]),(9,some 73,[18]),(10,some 74,[18]),(11,some 75,[18]),(12,some 76,[18]),(13,some 77,[18])] [?v10_0,?v10_1,?v10_2,?v10_3,?v10_4,?v10_5,?v10_6,?v10_7,?v10_8,?v10_9,?v10_10,?v10_11,?v10_12,?v10_13] 5 (by kernel_rfl) ⟨_,k.out⟩ ?l10 ?h10;case l10=>
     intro w' hSw;iterate 14
      refine lkw rfl rfl (by rfl) ?_ ?_
      ·first|((with_reducible refine yw ?_);first|exact hSw.l1 rfl rfl (by repeat constructor) (by rfl))|(go_simp<;>with_reducible rfl)
      try simp only[Act.put,tS,t0,t1]
     trivial
    simp only[zw,zk,Act.put,tS,t0,t1];refine w1 14 4 (by kernel_rfl) rfl ?_;go_wp2_with fail;refine(boot_any p x.vIm x.Im x.vOu x.Ou x.vIs x.Is x.now n s 8 _ _ k.out.lt ⟨k.out.fact.Im,k.out.fact.Ou,k.out.fact.Is⟩ OK.out.Im OK.out.Ou OK.out.Is hI6 OK.out.Oul OK.out.Isl OK.out.now.1 OK.out.now.2 hp0 hp1 hn hs (by omega)).mono ?_;rintro e W1 ⟨x2,rfl,hsl2,hok2,him2,hou2,his2,hno2,htr2,hwa2,hid2,hb⟩;have hoK2:yZ (KC x2):=vY hsl2;have BR:Hid (KOk (n+2) s 8 x2/\x2.Im=x.Im/\x2.Ou=x.Ou/\x2.Is=x.Is/\x2.now=x.now):=⟨hok2,him2,hou2,his2,hno2⟩;replace k:=zj (k.out.call hb);clear hb hok2 him2 hou2 his2 hno2 htr2 hwa2 hid2;go_wp2_with fail;refine zd (yz ⟨_,k.out⟩) ?_;refine zq [(15,some 79,[16,17,18]),(16,some 80,[17,18]),(17,some 81,[18])] [?v11_15,?v11_16,?v11_17] 1 (by kernel_rfl) ⟨_,k.out⟩ ?l11 ?h11;case l11=>
     intro w' hSw;iterate 3
      refine lkw rfl rfl (by rfl) ?_ ?_
      ·go_simp<;>with_reducible rfl
      try simp only[Act.put,tS,t0,t1]
     trivial
    simp only[zw,zk,Act.put,tS,t0,t1];refine w1 18 0 (by kernel_rfl) rfl ?_;replace k:=zj (k.out.add hsl2 (zO _));clear hsl2;go_wp2_with((with_reducible refine zx ?_);refine sop k rfl rfl rfl .a1 (by rfl) (by rfl) hoK2 (E:=WC x2 st bo p _ _ _) (by rfl) ?_;clear k;intro W k);refine zd (zJ rfl) ?_;refine zv (by kernel_rfl) ?_ _;clear HPer;replace k:Hid (St _ _ _ [(_,KC x,_),(_,WC x2 st bo p _ _ _,_)] _ _ _):=k
    go_upto_region 11 with fail
    have HPer:=Lib.hid k.out.per;refine xj k 1 23 rfl rfl 40 40 (by kernel_rfl) rfl ?_;clear k;intro W k;refine zq [(0,some 82,[]),(1,some 83,[]),(2,some 84,[]),(3,some 85,[]),(4,some 86,[]),(5,some 87,[]),(6,some 88,[]),(7,some 89,[]),(8,some 90,[]),(9,some 91,[]),(10,some 92,[]),(11,some 93,[]),(12,some 94,[]),(13,some 95,[]),(14,some 96,[]),(15,some 97,[]),(16,some 98,[]),(17,some 99,[]),(18,some 100,[])] [?v12_0,?v12_1,?v12_2,?v12_3,?v12_4,?v12_5,?v12_6,?v12_7,?v12_8,?v12_9,?v12_10,?v12_11,?v12_12,?v12_13,?v12_14,?v12_15,?v12_16,?v12_17,?v12_18] 21 (by kernel_rfl) (.of rfl rfl rfl k.out) ?l12 ?h12;case l12=>
     intro w' hSw;obtain⟨_,_,_,_,_,_,hSw⟩:=hSw;iterate 19
      refine lkw rfl rfl (by rfl) ?_ ?_
      ·first|((with_reducible refine yw ?_);first|exact hSw.l1 rfl rfl .a0 (by rfl))|(go_simp<;>with_reducible rfl)
      try simp only[Act.put,tS,t0,t1]
     trivial
    simp only[zw,zk,Act.put,tS,t0,t1];refine w1 19 20 (by kernel_rfl) rfl ?_;go_wp2_with((with_reducible refine zx ?_);refine so1 k rfl rfl rfl k.out.fact.1.Bx.one .a1 (by rfl) (E:=WC {x2 with vBx:=x.vBx} st bo p _ _ _) (by rfl) ?_;clear k;intro W k);refine zd (yz (.of rfl rfl rfl k.out)) ?_;refine zq [(20,some 101,[]),(21,some 102,[]),(22,some 103,[]),(23,some 104,[])] [?v13_20,?v13_21,?v13_22,?v13_23] 16 (by kernel_rfl) (.of rfl rfl rfl k.out) ?l13 ?h13;case l13=>
     intro w' hSw;obtain⟨_,_,_,_,_,_,hSw⟩:=hSw;iterate 4
      refine lkw rfl rfl (by rfl) ?_ ?_
      ·go_simp<;>with_reducible rfl
      try simp only[Act.put,tS,t0,t1]
     trivial
    simp only[zw,zk,Act.put,tS,t0,t1];refine w1 24 15 (by kernel_rfl) rfl ?_;go_wp2_with((with_reducible refine zx ?_);refine so1 k rfl rfl rfl rfl .a1 (by rfl) (E:=WC {x2 with vBx:=x.vBx,cons:=x.cons} st bo p _ _ _) (by rfl) ?_;clear k;intro W k);refine zd (yz (.of rfl rfl rfl k.out)) ?_;refine zq [(25,some 105,[]),(26,some 106,[]),(27,some 107,[]),(28,some 108,[])] [?v14_25,?v14_26,?v14_27,?v14_28] 11 (by kernel_rfl) (.of rfl rfl rfl k.out) ?l14 ?h14;case l14=>
     intro w' hSw;obtain⟨_,_,_,_,_,_,hSw⟩:=hSw;iterate 4
      refine lkw rfl rfl (by rfl) ?_ ?_
      ·go_simp<;>with_reducible rfl
      try simp only[Act.put,tS,t0,t1]
     trivial
    simp only[zw,zk,Act.put,tS,t0,t1];refine w1 29 10 (by kernel_rfl) rfl ?_;go_wp2_with((with_reducible refine zx ?_);refine so1 k rfl rfl rfl k.out.fact.1.Tr.one .a1 (by rfl) (E:=WC {x2 with vBx:=x.vBx,cons:=x.cons,vTr:=x.vTr} st bo p _ _ _) (by rfl) ?_;clear k;intro W k);refine zd (yz (.of rfl rfl rfl k.out)) ?_;refine zq [(30,some 109,[]),(31,some 110,[]),(32,some 111,[]),(33,some 112,[])] [?v15_30,?v15_31,?v15_32,?v15_33] 6 (by kernel_rfl) (.of rfl rfl rfl k.out) ?l15 ?h15;case l15=>
     intro w' hSw;obtain⟨_,_,_,_,_,_,hSw⟩:=hSw;iterate 4
      refine lkw rfl rfl (by rfl) ?_ ?_
      ·go_simp<;>with_reducible rfl
      try simp only[Act.put,tS,t0,t1]
     trivial
    simp only[zw,zk,Act.put,tS,t0,t1];refine w1 34 5 (by kernel_rfl) rfl ?_;go_wp2_with((with_reducible refine zx ?_);refine so1 k rfl rfl rfl k.out.fact.1.Se.one .a1 (by rfl) (E:=WC {x2 with vBx:=x.vBx,cons:=x.cons,vTr:=x.vTr,vSe:=x.vSe} st bo p _ _ _) (by rfl) ?_;clear k;intro W k);refine zd (yz (.of rfl rfl rfl k.out)) ?_;refine zq [(35,some 113,[]),(36,some 114,[]),(37,some 115,[]),(38,some 116,[])] [?v16_35,?v16_36,?v16_37,?v16_38] 1 (by kernel_rfl) (.of rfl rfl rfl k.out) ?l16 ?h16;case l16=>
     intro w' hSw;obtain⟨_,_,_,_,_,_,hSw⟩:=hSw;iterate 4
      refine lkw rfl rfl (by rfl) ?_ ?_
      ·go_simp<;>with_reducible rfl
      try simp only[Act.put,tS,t0,t1]
     trivial
    simp only[zw,zk,Act.put,tS,t0,t1];refine w1 39 0 (by kernel_rfl) rfl ?_;go_wp2_with((with_reducible refine zx ?_);refine so1 k rfl rfl rfl rfl .a1 (by rfl) (E:=WC {x2 with vBx:=x.vBx,cons:=x.cons,vTr:=x.vTr,vSe:=x.vSe,want:=x.want} st bo p _ _ _) (by rfl) ?_;clear k;intro W k);refine zd (yz (.of rfl rfl rfl k.out)) ?_;refine zv (by kernel_rfl) ?_ _;clear HPer;replace k:=zj (k.out.turn (H:=KSl {x2 with vBx:=x.vBx,Bx:=x.Bx,cons:=x.cons,vTr:=x.vTr,Tr:=x.Tr,vSe:=x.vSe,Se:=x.Se,want:=x.want}) (fun h=>{h.2 with Bx:=h.1.Bx,Tr:=h.1.Tr,Se:=h.1.Se,bx:=h.1.bx}) (zO _));replace k:Hid (St _ _ _ [(_,KC x,_),(_,WC {x2 with vBx:=x.vBx,Bx:=x.Bx,cons:=x.cons,vTr:=x.vTr,Tr:=x.Tr,vSe:=x.vSe,Se:=x.Se,want:=x.want} st bo p _ _ _,_)] _ _ _):=k;have hbw:IntKind.i64.wrap (bo+1)=bo+1:=xg (by omega) (by omega);go_wp2_with(first|((with_reducible refine zz ?_);refine ld1 k rfl rfl .a1 (by rfl) ?_)|((with_reducible refine zx ?_);refine so1 k rfl rfl rfl (by rfl) .a1 (by rfl) rfl ?_;clear k;intro W k));exact bodyPost_ret (results_none rfl _) rfl (k.out.lpost (st':=st) (bo':=bo+1) (x':={x2 with vBx:=x.vBx,Bx:=x.Bx,cons:=x.cons,vTr:=x.vTr,Tr:=x.Tr,vSe:=x.vSe,Se:=x.Se,want:=x.want}) 1 rfl HB.out k.out.fact (look_reset OK.out BR.out (fun h1 h2=>absurd (hg2.symm.trans h1) (by decide))))
   ·have d2:(a1==2)=false:=by rw[beq_eq_false_iff_ne];exact hA2
    have d3:(a1==3)=false:=by rw[beq_eq_false_iff_ne];exact hA3
    by_cases hA1:a1=1
    ·have d1:(a1==1)=true:=by rw[beq_iff_eq];exact hA1
     go_upto_block 0 with fail
     refine zy (fun Q0 hq0=> ?_);first|(refine wp_seq_k (fun K4 hk4=> ?_);refine zy (fun Q4 hq4=> ?_))|refine zy (fun Q4 hq4=> ?_)
     first|(refine wp_seq_k (fun K3 hk3=> ?_);refine zy (fun Q3 hq3=> ?_))|refine zy (fun Q3 hq3=> ?_)
     first|(refine wp_seq_k (fun K2 hk2=> ?_);refine zy (fun Q2 hq2=> ?_))|refine zy (fun Q2 hq2=> ?_)
     first|(refine wp_seq_k (fun K1 hk1=> ?_);refine zy (fun Q1 hq1=> ?_))|refine zy (fun Q1 hq1=> ?_)
     go_wp2_with fail;exact bodyPost_ret (results_none rfl _) rfl (k.out.lpost 0 rfl HB.out k.out.fact (LookR.refl OK.out))
    ·have d1:(a1==1)=false:=by rw[beq_eq_false_iff_ne];exact hA1
     go_upto_block 0 with fail
     refine zy (fun Q0 hq0=> ?_);first|(refine wp_seq_k (fun K4 hk4=> ?_);refine zy (fun Q4 hq4=> ?_))|refine zy (fun Q4 hq4=> ?_)
     first|(refine wp_seq_k (fun K3 hk3=> ?_);refine zy (fun Q3 hq3=> ?_))|refine zy (fun Q3 hq3=> ?_)
     first|(refine wp_seq_k (fun K2 hk2=> ?_);refine zy (fun Q2 hq2=> ?_))|refine zy (fun Q2 hq2=> ?_)
     first|(refine wp_seq_k (fun K1 hk1=> ?_);refine zy (fun Q1 hq1=> ?_))|refine zy (fun Q1 hq1=> ?_)
     go_wp2_with fail;exact bodyPost_ret (results_none rfl _) rfl (k.out.lpost 0 rfl HB.out k.out.fact (LookR.refl OK.out))
 by_cases hg3:x.gone=3
 ·go_enter Tryz.func35,Tryz.ntmps35
  go_upto_region 3 with(first|((with_reducible refine zp ?_);first|refine zg rfl rfl rfl (by with_reducible rfl) ?_)|((with_reducible refine zz ?_);refine ld1 k rfl rfl .a0 (by rfl) ?_))
  have HPer:=Lib.hid k.out.per;refine zt k 14 14 (by kernel_rfl) rfl ?_;clear k;intro W k;refine zq [(0,some 35,[]),(1,some 36,[]),(2,some 37,[]),(3,some 38,[]),(4,some 39,[]),(5,some 40,[]),(6,some 41,[]),(7,some 42,[]),(8,some 43,[]),(9,some 44,[]),(10,some 45,[]),(11,some 46,[]),(12,some 47,[]),(13,some 2,[])] [?v17_0,?v17_1,?v17_2,?v17_3,?v17_4,?v17_5,?v17_6,?v17_7,?v17_8,?v17_9,?v17_10,?v17_11,?v17_12,?v17_13] 0 (by kernel_rfl) ⟨_,k.out⟩ ?l17 ?h17;case l17=>
   intro w' hSw;iterate 14
    refine lkw rfl rfl (by rfl) ?_ ?_
    ·first|((with_reducible refine yw ?_);first|exact hSw.l1 rfl rfl .a0 (by rfl))|(go_simp<;>with_reducible rfl)
    try simp only[Act.put,tS,t0,t1]
   trivial
  simp only[zw,zk,Act.put,tS,t0,t1];refine zv (by kernel_rfl) ?_ _;clear HPer;by_cases hA2:a2=2
  ·subst hA2
   go_upto_block 0 with fail
   refine zy (fun Q0 hq0=> ?_);first|(refine wp_seq_k (fun K4 hk4=> ?_);refine zy (fun Q4 hq4=> ?_))|refine zy (fun Q4 hq4=> ?_)
   first|(refine wp_seq_k (fun K3 hk3=> ?_);refine zy (fun Q3 hq3=> ?_))|refine zy (fun Q3 hq3=> ?_)
   first|(refine wp_seq_k (fun K2 hk2=> ?_);refine zy (fun Q2 hq2=> ?_))|refine zy (fun Q2 hq2=> ?_)
   first|(refine wp_seq_k (fun K1 hk1=> ?_);refine zy (fun Q1 hq1=> ?_))|refine zy (fun Q1 hq1=> ?_)
   go_wp2_with((with_reducible refine zx ?_);refine so1 k rfl rfl rfl (by rfl) .a0 (by rfl) rfl ?_;clear k;intro W k);exact bodyPost_ret (results_none rfl _) rfl (k.out.lpost (st':=3) (bo':=bo) (x':=x) 0 rfl HB.out k.out.fact (look_halt OK.out (fun h1 h2=>absurd (hg3.symm.trans h1) (by decide))))
  ·by_cases hA3:a2=3
   ·subst hA3
    go_upto_block 0 with fail
    refine zy (fun Q0 hq0=> ?_);first|(refine wp_seq_k (fun K4 hk4=> ?_);refine zy (fun Q4 hq4=> ?_))|refine zy (fun Q4 hq4=> ?_)
    first|(refine wp_seq_k (fun K3 hk3=> ?_);refine zy (fun Q3 hq3=> ?_))|refine zy (fun Q3 hq3=> ?_)
    first|(refine wp_seq_k (fun K2 hk2=> ?_);refine zy (fun Q2 hq2=> ?_))|refine zy (fun Q2 hq2=> ?_)
    first|(refine wp_seq_k (fun K1 hk1=> ?_);refine zy (fun Q1 hq1=> ?_))|refine zy (fun Q1 hq1=> ?_)
    go_upto_region 10 with(first|((with_reducible refine zz ?_);refine ldp k rfl rfl .a0 (D:=KC x) (by rfl) (by rfl) ?_)|((with_reducible refine zx ?_);refine soa k rfl rfl rfl .a0 (by rfl) (by rfl) (vY k.out.fact) ?_;clear k;intro W k)|((with_reducible refine zf ?_);refine ala k Tryz.zeroValue56 ?_;clear k;intro b56 X W k))
    replace k:Hid (St _ _ _ [(_,KC x,_),(_,WC x st bo p _ _ _,_)] _ _ _):=k;have HPer:=Lib.hid k.out.per;refine zt k 18 19 (by kernel_rfl) rfl ?_;clear k;intro W k;refine zq [(0,some 64,[18]),(1,some 65,[18]),(2,some 66,[18]),(3,some 67,[18]),(4,some 68,[18]),(5,some 69,[18]),(6,some 70,[18]),(7,some 71,[18]),(8,some 72,[18]),(9,some 73,[18]),(10,some 74,[18]),(11,some 75,[18]),(12,some 76,[18]),(13,some 77,[18])] [?v18_0,?v18_1,?v18_2,?v18_3,?v18_4,?v18_5,?v18_6,?v18_7,?v18_8,?v18_9,?v18_10,?v18_11,?v18_12,?v18_13] 5 (by kernel_rfl) ⟨_,k.out⟩ ?l18 ?h18;case l18=>
     intro w' hSw;iterate 14
      refine lkw rfl rfl (by rfl) ?_ ?_
      ·first|((with_reducible refine yw ?_);first|exact hSw.l1 rfl rfl (by repeat constructor) (by rfl))|(go_simp<;>with_reducible rfl)
      try simp only[Act.put,tS,t0,t1]
     trivial
    simp only[zw,zk,Act.put,tS,t0,t1];refine w1 14 4 (by kernel_rfl) rfl ?_;go_wp2_with fail;refine(boot_any p x.vIm x.Im x.vOu x.Ou x.vIs x.Is x.now n s 8 _ _ k.out.lt ⟨k.out.fact.Im,k.out.fact.Ou,k.out.fact.Is⟩ OK.out.Im OK.out.Ou OK.out.Is hI6 OK.out.Oul OK.out.Isl OK.out.now.1 OK.out.now.2 hp0 hp1 hn hs (by omega)).mono ?_;rintro e W1 ⟨x2,rfl,hsl2,hok2,him2,hou2,his2,hno2,htr2,hwa2,hid2,hb⟩;have hoK2:yZ (KC x2):=vY hsl2;have BR:Hid (KOk (n+2) s 8 x2/\x2.Im=x.Im/\x2.Ou=x.Ou/\x2.Is=x.Is/\x2.now=x.now):=⟨hok2,him2,hou2,his2,hno2⟩;replace k:=zj (k.out.call hb);clear hb hok2 him2 hou2 his2 hno2 htr2 hwa2 hid2;go_wp2_with fail;refine zd (yz ⟨_,k.out⟩) ?_;refine zq [(15,some 79,[16,17,18]),(16,some 80,[17,18]),(17,some 81,[18])] [?v19_15,?v19_16,?v19_17] 1 (by kernel_rfl) ⟨_,k.out⟩ ?l19 ?h19;case l19=>
     intro w' hSw;iterate 3
      refine lkw rfl rfl (by rfl) ?_ ?_
      ·go_simp<;>with_reducible rfl
      try simp only[Act.put,tS,t0,t1]
     trivial
    simp only[zw,zk,Act.put,tS,t0,t1];refine w1 18 0 (by kernel_rfl) rfl ?_;replace k:=zj (k.out.add hsl2 (zO _));clear hsl2;go_wp2_with((with_reducible refine zx ?_);refine sop k rfl rfl rfl .a1 (by rfl) (by rfl) hoK2 (E:=WC x2 st bo p _ _ _) (by rfl) ?_;clear k;intro W k);refine zd (zJ rfl) ?_;refine zv (by kernel_rfl) ?_ _;clear HPer;replace k:Hid (St _ _ _ [(_,KC x,_),(_,WC x2 st bo p _ _ _,_)] _ _ _):=k
    go_upto_region 11 with fail
    have HPer:=Lib.hid k.out.per;refine xj k 1 23 rfl rfl 40 40 (by kernel_rfl) rfl ?_;clear k;intro W k;refine zq [(0,some 82,[]),(1,some 83,[]),(2,some 84,[]),(3,some 85,[]),(4,some 86,[]),(5,some 87,[]),(6,some 88,[]),(7,some 89,[]),(8,some 90,[]),(9,some 91,[]),(10,some 92,[]),(11,some 93,[]),(12,some 94,[]),(13,some 95,[]),(14,some 96,[]),(15,some 97,[]),(16,some 98,[]),(17,some 99,[]),(18,some 100,[])] [?v20_0,?v20_1,?v20_2,?v20_3,?v20_4,?v20_5,?v20_6,?v20_7,?v20_8,?v20_9,?v20_10,?v20_11,?v20_12,?v20_13,?v20_14,?v20_15,?v20_16,?v20_17,?v20_18] 21 (by kernel_rfl) (.of rfl rfl rfl k.out) ?l20 ?h20;case l20=>
     intro w' hSw;obtain⟨_,_,_,_,_,_,hSw⟩:=hSw;iterate 19
      refine lkw rfl rfl (by rfl) ?_ ?_
      ·first|((with_reducible refine yw ?_);first|exact hSw.l1 rfl rfl .a0 (by rfl))|(go_simp<;>with_reducible rfl)
      try simp only[Act.put,tS,t0,t1]
     trivial
    simp only[zw,zk,Act.put,tS,t0,t1];refine w1 19 20 (by kernel_rfl) rfl ?_;go_wp2_with((with_reducible refine zx ?_);refine so1 k rfl rfl rfl k.out.fact.1.Bx.one .a1 (by rfl) (E:=WC {x2 with vBx:=x.vBx} st bo p _ _ _) (by rfl) ?_;clear k;intro W k);refine zd (yz (.of rfl rfl rfl k.out)) ?_;refine zq [(20,some 101,[]),(21,some 102,[]),(22,some 103,[]),(23,some 104,[])] [?v21_20,?v21_21,?v21_22,?v21_23] 16 (by kernel_rfl) (.of rfl rfl rfl k.out) ?l21 ?h21;case l21=>
     intro w' hSw;obtain⟨_,_,_,_,_,_,hSw⟩:=hSw;iterate 4
      refine lkw rfl rfl (by rfl) ?_ ?_
      ·go_simp<;>with_reducible rfl
      try simp only[Act.put,tS,t0,t1]
     trivial
    simp only[zw,zk,Act.put,tS,t0,t1];refine w1 24 15 (by kernel_rfl) rfl ?_;go_wp2_with((with_reducible refine zx ?_);refine so1 k rfl rfl rfl rfl .a1 (by rfl) (E:=WC {x2 with vBx:=x.vBx,cons:=x.cons} st bo p _ _ _) (by rfl) ?_;clear k;intro W k);refine zd (yz (.of rfl rfl rfl k.out)) ?_;refine zq [(25,some 105,[]),(26,some 106,[]),(27,some 107,[]),(28,some 108,[])] [?v22_25,?v22_26,?v22_27,?v22_28] 11 (by kernel_rfl) (.of rfl rfl rfl k.out) ?l22 ?h22;case l22=>
     intro w' hSw;obtain⟨_,_,_,_,_,_,hSw⟩:=hSw;iterate 4
      refine lkw rfl rfl (by rfl) ?_ ?_
      ·go_simp<;>with_reducible rfl
      try simp only[Act.put,tS,t0,t1]
     trivial
    simp only[zw,zk,Act.put,tS,t0,t1];refine w1 29 10 (by kernel_rfl) rfl ?_;go_wp2_with((with_reducible refine zx ?_);refine so1 k rfl rfl rfl k.out.fact.1.Tr.one .a1 (by rfl) (E:=WC {x2 with vBx:=x.vBx,cons:=x.cons,vTr:=x.vTr} st bo p _ _ _) (by rfl) ?_;clear k;intro W k);refine zd (yz (.of rfl rfl rfl k.out)) ?_;refine zq [(30,some 109,[]),(31,some 110,[]),(32,some 111,[]),(33,some 112,[])] [?v23_30,?v23_31,?v23_32,?v23_33] 6 (by kernel_rfl) (.of rfl rfl rfl k.out) ?l23 ?h23;case l23=>
     intro w' hSw;obtain⟨_,_,_,_,_,_,hSw⟩:=hSw;iterate 4
      refine lkw rfl rfl (by rfl) ?_ ?_
      ·go_simp<;>with_reducible rfl
      try simp only[Act.put,tS,t0,t1]
     trivial
    simp only[zw,zk,Act.put,tS,t0,t1];refine w1 34 5 (by kernel_rfl) rfl ?_;go_wp2_with((with_reducible refine zx ?_);refine so1 k rfl rfl rfl k.out.fact.1.Se.one .a1 (by rfl) (E:=WC {x2 with vBx:=x.vBx,cons:=x.cons,vTr:=x.vTr,vSe:=x.vSe} st bo p _ _ _) (by rfl) ?_;clear k;intro W k);refine zd (yz (.of rfl rfl rfl k.out)) ?_;refine zq [(35,some 113,[]),(36,some 114,[]),(37,some 115,[]),(38,some 116,[])] [?v24_35,?v24_36,?v24_37,?v24_38] 1 (by kernel_rfl) (.of rfl rfl rfl k.out) ?l24 ?h24;case l24=>
     intro w' hSw;obtain⟨_,_,_,_,_,_,hSw⟩:=hSw;iterate 4
      refine lkw rfl rfl (by rfl) ?_ ?_
      ·go_simp<;>with_reducible rfl
      try simp only[Act.put,tS,t0,t1]
     trivial
    simp only[zw,zk,Act.put,tS,t0,t1];refine w1 39 0 (by kernel_rfl) rfl ?_;go_wp2_with((with_reducible refine zx ?_);refine so1 k rfl rfl rfl rfl .a1 (by rfl) (E:=WC {x2 with vBx:=x.vBx,cons:=x.cons,vTr:=x.vTr,vSe:=x.vSe,want:=x.want} st bo p _ _ _) (by rfl) ?_;clear k;intro W k);refine zd (yz (.of rfl rfl rfl k.out)) ?_;refine zv (by kernel_rfl) ?_ _;clear HPer;replace k:=zj (k.out.turn (H:=KSl {x2 with vBx:=x.vBx,Bx:=x.Bx,cons:=x.cons,vTr:=x.vTr,Tr:=x.Tr,vSe:=x.vSe,Se:=x.Se,want:=x.want}) (fun h=>{h.2 with Bx:=h.1.Bx,Tr:=h.1.Tr,Se:=h.1.Se,bx:=h.1.bx}) (zO _));replace k:Hid (St _ _ _ [(_,KC x,_),(_,WC {x2 with vBx:=x.vBx,Bx:=x.Bx,cons:=x.cons,vTr:=x.vTr,Tr:=x.Tr,vSe:=x.vSe,Se:=x.Se,want:=x.want} st bo p _ _ _,_)] _ _ _):=k;have hbw:IntKind.i64.wrap (bo+1)=bo+1:=xg (by omega) (by omega);go_wp2_with(first|((with_reducible refine zz ?_);refine ld1 k rfl rfl .a1 (by rfl) ?_)|((with_reducible refine zx ?_);refine so1 k rfl rfl rfl (by rfl) .a1 (by rfl) rfl ?_;clear k;intro W k));exact bodyPost_ret (results_none rfl _) rfl (k.out.lpost (st':=st) (bo':=bo+1) (x':={x2 with vBx:=x.vBx,Bx:=x.Bx,cons:=x.cons,vTr:=x.vTr,Tr:=x.Tr,vSe:=x.vSe,Se:=x.Se,want:=x.want}) 1 rfl HB.out k.out.fact (look_reset OK.out BR.out (fun h1 h2=>absurd (hg3.symm.trans h1) (by decide))))
   ·have d2:(a2==2)=false:=by rw[beq_eq_false_iff_ne];exact hA2
    have d3:(a2==3)=false:=by rw[beq_eq_false_iff_ne];exact hA3
    by_cases hA1:a2=1
    ·have d1:(a2==1)=true:=by rw[beq_iff_eq];exact hA1
     go_upto_block 0 with fail
     refine zy (fun Q0 hq0=> ?_);first|(refine wp_seq_k (fun K4 hk4=> ?_);refine zy (fun Q4 hq4=> ?_))|refine zy (fun Q4 hq4=> ?_)
     first|(refine wp_seq_k (fun K3 hk3=> ?_);refine zy (fun Q3 hq3=> ?_))|refine zy (fun Q3 hq3=> ?_)
     first|(refine wp_seq_k (fun K2 hk2=> ?_);refine zy (fun Q2 hq2=> ?_))|refine zy (fun Q2 hq2=> ?_)
     first|(refine wp_seq_k (fun K1 hk1=> ?_);refine zy (fun Q1 hq1=> ?_))|refine zy (fun Q1 hq1=> ?_)
     go_wp2_with fail;exact bodyPost_ret (results_none rfl _) rfl (k.out.lpost 0 rfl HB.out k.out.fact (LookR.refl OK.out))
    ·have d1:(a2==1)=false:=by rw[beq_eq_false_iff_ne];exact hA1
     go_upto_block 0 with fail
     refine zy (fun Q0 hq0=> ?_);first|(refine wp_seq_k (fun K4 hk4=> ?_);refine zy (fun Q4 hq4=> ?_))|refine zy (fun Q4 hq4=> ?_)
     first|(refine wp_seq_k (fun K3 hk3=> ?_);refine zy (fun Q3 hq3=> ?_))|refine zy (fun Q3 hq3=> ?_)
     first|(refine wp_seq_k (fun K2 hk2=> ?_);refine zy (fun Q2 hq2=> ?_))|refine zy (fun Q2 hq2=> ?_)
     first|(refine wp_seq_k (fun K1 hk1=> ?_);refine zy (fun Q1 hq1=> ?_))|refine zy (fun Q1 hq1=> ?_)
     go_wp2_with fail;exact bodyPost_ret (results_none rfl _) rfl (k.out.lpost 0 rfl HB.out k.out.fact (LookR.refl OK.out))
 ·have hge: ¬(1<=x.gone/\x.gone<=3):=by omega
  by_cases hlo:1<=x.gone
  ·have hhi: ¬(x.gone<=3):=by omega
   clear hg1 hg2 hg3 hg0 hge;go_enter Tryz.func35,Tryz.ntmps35
   go_upto_block 0 with(first|((with_reducible refine zp ?_);first|refine zg rfl rfl rfl (by with_reducible rfl) ?_)|((with_reducible refine zz ?_);refine ld1 k rfl rfl .a0 (by rfl) ?_))
   refine zy (fun Q0 hq0=> ?_);first|(refine wp_seq_k (fun K4 hk4=> ?_);refine zy (fun Q4 hq4=> ?_))|refine zy (fun Q4 hq4=> ?_)
   first|(refine wp_seq_k (fun K3 hk3=> ?_);refine zy (fun Q3 hq3=> ?_))|refine zy (fun Q3 hq3=> ?_)
   first|(refine wp_seq_k (fun K2 hk2=> ?_);refine zy (fun Q2 hq2=> ?_))|refine zy (fun Q2 hq2=> ?_)
   first|(refine wp_seq_k (fun K1 hk1=> ?_);refine zy (fun Q1 hq1=> ?_))|refine zy (fun Q1 hq1=> ?_)
   go_wp2_with fail;exact bodyPost_ret (results_none rfl _) rfl (k.out.lpost 0 rfl HB.out k.out.fact (LookR.refl OK.out))
  ·clear hg1 hg2 hg3 hg0 hge
   go_enter Tryz.func35,Tryz.ntmps35
   go_upto_block 0 with(first|((with_reducible refine zp ?_);first|go_big_skip|refine zg rfl rfl rfl (by with_reducible rfl) ?_)|((with_reducible refine zz ?_);refine ld1 k rfl rfl .a0 (by rfl) ?_))
   refine zy (fun Q0 hq0=> ?_);first|(refine wp_seq_k (fun K4 hk4=> ?_);refine zy (fun Q4 hq4=> ?_))|refine zy (fun Q4 hq4=> ?_)
   first|(refine wp_seq_k (fun K3 hk3=> ?_);refine zy (fun Q3 hq3=> ?_))|refine zy (fun Q3 hq3=> ?_)
   first|(refine wp_seq_k (fun K2 hk2=> ?_);refine zy (fun Q2 hq2=> ?_))|refine zy (fun Q2 hq2=> ?_)
   first|(refine wp_seq_k (fun K1 hk1=> ?_);refine zy (fun Q1 hq1=> ?_))|refine zy (fun Q1 hq1=> ?_)
   go_wp2_with fail;exact bodyPost_ret (results_none rfl _) rfl (k.out.lpost 0 rfl HB.out k.out.fact (LookR.refl OK.out))
end
section
open Go.RowKit Go.Proofs.YtaccidkgnkmagaaGreatDoor.Isa
theorem kc_zip(x:Kn):(KC x).zipIdx= #[(x.vP,0),(x.vT,1),(.int .i64 x.left,2),(x.vS,3),(x.vPi,4),(.int .i64 x.hsz,5),(x.vH,6),(.int .u64 x.now,7),(x.vIm,8),(x.vOu,9),(x.vIs,10),(x.vBx,11),(.string x.cons,12),(x.vTr,13),(x.vSe,14),(.int .i64 x.want,15),(.int .i64 x.gone,16)]:=by simp[KC]
theorem sc_zip(x:Kn)(st bo:Int):(SC x st bo).zipIdx= #[(x.vP,0),(x.vT,1),(.int .i64 x.left,2),(x.vS,3),(x.vPi,4),(.int .i64 x.hsz,5),(x.vH,6),(.int .u64 x.now,7),(x.vIm,8),(x.vOu,9),(x.vIs,10),(x.vBx,11),(.string x.cons,12),(x.vTr,13),(x.vSe,14),(.int .i64 x.want,15),(.int .i64 x.gone,16),(.int .i64 st,17),(.int .i64 bo,18)]:=by simp[SC]
theorem sgoes_any(x:Kn)(st bo:Int)(w:World):Calls Tryz.prog 23 #[.agg (SC x st bo)] w fun e w'=>e= .returned (.bool (st==1))/\Below w.heap.size w w':=by
 have k:Hid (St (fun _=>False) (fun _=>False) w [] (fun _ _=>True) (fun _=>False) w):=St.begin (fun _ h=>h.elim) trivial xZ;go_enter Tryz.func23,Tryz.ntmps23;go_wp2_with(first|((with_reducible refine zz ?_);refine ld1 k rfl rfl .a0 (by rfl) ?_)|((with_reducible refine zI ?_);refine bxa k (T:=58) rfl ?_;clear k;intro c58 X W k));exact bodyPost_ret (zh rfl rfl) rfl ⟨rfl,k.out.end⟩
theorem swindow_any(x:Kn)(st bo:Int)(X0:Nat->Prop)(w:World)(hX: ∀b,X0 b->b<w.heap.size)(hsl:KSl x X0 w):
  Calls Tryz.prog 21 #[.agg (SC x st bo)] w fun e w'=>e= .returned (.agg (SC x (if st=2 then 1 else st) bo))/\Below w.heap.size w w':=by
 have k:Hid (St (fun _=>False) X0 w [] (KSl x) X0 w):=St.begin hX hsl (zO x);have ho:=fun s=>Zb hsl s bo;clear hsl;by_cases h2:st=2
 ·subst h2
  have ho1:=ho 1;clear ho;go_enter Tryz.func21,Tryz.ntmps21
  go_upto_region 3 with(first|((with_reducible refine zx ?_);refine so1 k rfl rfl rfl rfl .a1 (by rfl) (E:=SC x 1 bo) (by rfl) ?_;clear k;intro W k)|(first|((with_reducible refine zz ?_);refine ld1 k rfl rfl .a1 (by rfl) ?_)|((with_reducible refine zI ?_);refine bxa k (T:=58) rfl ?_;clear k;intro c58 X W k)|((with_reducible refine zf ?_);refine ala k Tryz.zeroValue58 ?_;clear k;intro b58 X W k)))
  replace k:Hid (St _ _ _ [(b58,_,_),(c58,SC x 1 bo,_)] _ _ _):=k;go_wp2_with(first|((with_reducible refine zz ?_);refine lda k rfl rfl .a1 (by rfl) ?_)|((with_reducible refine zx ?_);refine soa k rfl rfl rfl .a0 (by rfl) (by rfl) (by assumption) ?_;clear k;intro W k));exact bodyPost_ret (yj rfl _ rfl (yx k.out 0 rfl 58 rfl rfl)) rfl ⟨rfl,k.out.end⟩
 ·have d2:(st==2)=false:=by rw[beq_eq_false_iff_ne];exact h2
  have n2: ¬(st=2):=h2;have ho1:=ho st;clear ho h2;go_enter Tryz.func21,Tryz.ntmps21;go_wp2_with(first|((with_reducible refine zz ?_);first|(refine ld1 k rfl rfl .a1 (by rfl) ?_)|(refine lda k rfl rfl .a1 (by rfl) ?_))|((with_reducible refine zx ?_);refine soa k rfl rfl rfl .a0 (by rfl) (by rfl) (by assumption) ?_;clear k;intro W k)|((with_reducible refine zI ?_);refine bxa k (T:=58) rfl ?_;clear k;intro c58 X W k)|((with_reducible refine zf ?_);refine ala k Tryz.zeroValue58 ?_;clear k;intro b58 X W k));exact bodyPost_ret (yj rfl _ rfl (yx k.out 0 rfl 58 rfl rfl)) rfl ⟨rfl,k.out.end⟩
def SArrR(n s:Nat)(x:Kn)(st bo:Int)(X:Nat->Prop)(w:World)(e:Ending)(w':World):Prop:=
 ∃(v:Value) (l:List (Array Value)),e= .returned (.agg (SC {x with vBx:=v,Bx:=l} st bo))/\KSl {x with vBx:=v,Bx:=l} X w' /\KOk n s 8 {x with vBx:=v,Bx:=l}/\Below w.heap.size w w'
theorem sarrive_any(n s:Nat)(x:Kn)(st bo:Int)(X0:Nat->Prop)(w:World)(hX: ∀b,X0 b->b<w.heap.size)(hsl:KSl x X0 w)(hok:KOk n s 8 x)(q:Int)(body:ByteArray)(hbd:body.size<=64):
  Calls Tryz.prog 61 #[.agg (SC x st bo),.int .i64 q,.string body] w (SArrR n s x st bo X0 w):=by
 have k:Hid (St (fun _=>False) X0 w [] (KSl x) X0 w):=St.begin hX hsl (zO x);have OK:=Lib.hid hok;clear hsl hok;go_enter Tryz.func61,Tryz.ntmps61;go_wp2_with(first|((with_reducible refine zz ?_);first|(refine ldp k rfl rfl .a1 (D:=KC x) (by rfl) (by rfl) ?_)|(refine ld1 k rfl rfl .a1 (by rfl) ?_))|((with_reducible refine zI ?_);refine bxa k (T:=58) rfl ?_;clear k;intro c58 X W k)|((with_reducible refine zf ?_);refine ala k Tryz.zeroValue58 ?_;clear k;intro b58 X W k));refine(karrive_any n s 8 x _ _ k.out.lt k.out.fact OK.out q body x.now hbd OK.out.now.1 (by have:=OK.out.now.2;omega)).mono ?_;rintro e W1 ⟨v,l,rfl,hsl2,hok2,hb⟩;have hoK2:yZ (KC {x with vBx:=v,Bx:=l}):=vY hsl2;have ho2:=Zb hsl2 st bo;have OK2:=Lib.hid hok2;replace k:=zj ((k.out.call hb).add hsl2 (zO _));clear hb hsl2 hok2
 go_upto_region 2 with(first|((with_reducible refine zx ?_);refine sop k rfl rfl rfl .a1 (by rfl) (by rfl) hoK2 (E:=SC {x with vBx:=v,Bx:=l} st bo) (by rfl) ?_;clear k;intro W k)|fail)
 replace k:Hid (St _ _ _ [(b58,_,_),(c58,SC {x with vBx:=v,Bx:=l} st bo,_)] _ _ _):=k;go_wp2_with(first|((with_reducible refine zz ?_);refine lda k rfl rfl .a1 (by rfl) ?_)|((with_reducible refine zx ?_);refine soa k rfl rfl rfl .a0 (by rfl) (by rfl) (by assumption) ?_;clear k;intro W k));exact bodyPost_ret (yj rfl _ rfl (yx k.out 0 rfl 58 rfl rfl)) rfl ⟨v,l,rfl,(k.out.turn And.right (zO _)).out,OK2.out,k.out.end⟩
def SBegR(lI lO lN:List (Array Value))(a0:Int)(X:Nat->Prop)(w:World)(e:Ending)(w':World):Prop:=
 ∃(x:Kn) (st bo:Int),e= .returned (.agg (SC x st bo))/\KSl x X w' /\KOk 4 0 8 x/\x.Im=lI/\x.Ou=lO/\x.Is=lN/\x.now=0/\x.Tr=[]/\(st=1\/st=3)/\(1<=bo/\bo<=2)/\(lI=[]->a0=1->x.gone=1/\st=1)/\Below w.heap.size w w'
theorem sbegin_any(p a0 a1 a2:Int)(vI:Value)(lI:List (Array Value))(vO:Value)(lO:List (Array Value))(vN:Value)(lN:List (Array Value))(X0:Nat->Prop)(w:World)(hX: ∀b,X0 b->b<w.heap.size)(hsl:BootG vI lI vO lO vN lN X0 w)
  (hI: ∀r∈lI,∃t:ByteArray,r= #[.string t]) (hO: ∀r∈lO,ChanOk r) (hN: ∀r∈lN,ChanOk r) (hI6:lI.length<=10000000) (hO6:lO.length<=6) (hN6:lN.length<=6) (hp0: -9223372036854775808<=p) (hp1:p<=9223372036854775807):
  Calls Tryz.prog 15 #[.agg #[.int .i64 p,.int .i64 a0,.int .i64 a1,.int .i64 a2],vI,vO,vN] w (SBegR lI lO lN a0 X0 w):=by
 have k:Hid (St (fun _=>False) X0 w [] (BootG vI lI vO lO vN lN) X0 w):=St.begin hX hsl (xd _ _ _ _ _ _);have HI:=Lib.hid hI;have HO:=Lib.hid hO;have HN:=Lib.hid hN;clear hsl hI hO hN;go_enter Tryz.func15,Tryz.ntmps15
 go_upto_region 1 with(first|((with_reducible refine zI ?_);refine bxa k (T:=76) rfl ?_;clear k;intro c76 X W k)|((with_reducible refine zf ?_);refine ala k Tryz.zeroValue58 ?_;clear k;intro b58 X W k))
 have HPer:=Lib.hid k.out.per;refine zt k 9 11 (by kernel_rfl) rfl ?_;clear k;intro W k;refine zq [(0,some 10,[1,5,6,8,9]),(1,some 11,[5,6,8,9]),(2,some 12,[5,6,8,9]),(3,some 13,[5,6,8,9]),(4,some 14,[5,6,8,9]),(7,some 17,[8,9])] [?v1_0,?v1_1,?v1_2,?v1_3,?v1_4,?v1_7] 5 (by kernel_rfl) ⟨_,k.out⟩ ?l1 ?h1;case l1=>
  intro w' hSw;iterate 6
   refine lkw rfl rfl (by rfl) ?_ ?_
   ·first|((with_reducible refine yw ?_);first|exact hSw.l1 rfl rfl .a1 (by rfl)|exact hSw.la rfl rfl .a1 (by rfl) (by rfl)|exact hSw.lp rfl rfl (by repeat constructor) (D:= #[_,_,_,_]) (by rfl) (by rfl) (by rfl))|(go_simp<;>with_reducible rfl)
   try simp only[Act.put,tS,t0,t1]
  trivial
 simp only[zw,zk,Act.put,tS,t0,t1];refine w1 5 4 (by kernel_rfl) rfl ?_;go_wp2_with fail;refine(boot_any p vI lI vO lO vN lN 0 0 0 8 _ _ k.out.lt k.out.fact HI.out HO.out HN.out hI6 hO6 hN6 (by omega) (by omega) hp0 hp1 (by omega) (by omega) (by omega)).mono ?_;rintro e W1 ⟨x,rfl,hsl2,hok2,him2,hou2,his2,hno2,htr2,hwa2,hid2,hb⟩;have OK:Hid (KOk 2 0 8 x):=hok2;have BR:Hid (x.Im=lI/\x.Ou=lO/\x.Is=lN/\x.now=0/\x.Tr=[]/\(lI=[]->x.gone=1)):=⟨him2,hou2,his2,hno2,htr2,hid2⟩;have hks:(KC x).size=17:=rfl;have hkz:=kc_zip x;replace k:=zj ((k.out.call hb).add hsl2 (zO _));clear hb hsl2 hok2 him2 hou2 his2 hno2 htr2 hwa2 hid2;go_wp2_with fail;refine zd (yz ⟨_,k.out.turn And.left (xd _ _ _ _ _ _)⟩) ?_;refine zq [(6,some 16,[8,9]),(8,some 18,[9])] [?v2_6,?v2_8] 2 (by kernel_rfl) ⟨_,k.out.turn And.left (xd _ _ _ _ _ _)⟩ ?l2 ?h2;case l2=>
  intro w' hSw;iterate 2
   refine lkw rfl rfl (by rfl) ?_ ?_
   ·go_simp<;>with_reducible rfl
   try simp only[Act.put,tS,t0,t1]
  trivial
 simp only[zw,zk,Act.put,tS,t0,t1];refine w1 9 1 (by kernel_rfl) rfl ?_;go_wp2_with((with_reducible refine zI ?_);refine bxa k (T:=99) rfl ?_;clear k;intro bk X W k);clear hks hkz;skip;refine zd (zJ rfl) ?_;refine zU [(10,some 9,[])] [?v3_10] 0 (by kernel_rfl) (.inr (by kernel_rfl)) ?l3 ?h3;case l3=>
  intro w';refine lkw rfl rfl (by rfl) ?_ ?_
  ·go_simp<;>with_reducible rfl
  try simp only[Act.put,tS,t0,t1]
  trivial
 simp only[zw,zk,Act.put,tS,t0,t1];refine zv (by kernel_rfl) ?_ _;clear HPer;replace k:Hid (St _ _ _ [(bk,WC x 1 1 p a0 a1 a2,_),(b58,_,_),(c76,_,_)] _ _ _):=k;replace k:=zj (k.out.turn And.right (zO x));go_wp2_with fail;refine(looks_any bk 2 0 x 1 1 p a0 a1 a2 _ _ (k.out.blk (i:=0) rfl) (k.out.box (i:=0) rfl).1 k.out.lt k.out.fact OK.out hp0 hp1 (by omega) (by omega) (by omega) (by omega) (by rw[BR.out.1];exact hI6)).mono ?_;rintro e W3 ⟨x',st',bo',rfl,hL,hsl3,hb⟩;replace k:=zj ((k.out.callM (i:=0) rfl hb).turn (fun _=>hsl3) (zO _));replace k:Hid (St _ _ _ [(bk,WC x' st' bo' p a0 a1 a2,_),(b58,_,_),(c76,_,_)] _ _ _):=k;have ho3:=Zb hsl3 st' bo';have HL:=Lib.hid hL;clear hb hsl3 hL;go_wp2_with(first|((with_reducible refine zz ?_);refine ldp k rfl rfl .a0 (D:=SC x' st' bo') (by rfl) (by rfl) ?_)|((with_reducible refine zx ?_);refine soa k rfl rfl rfl .a1 (by rfl) (by rfl) (by assumption) ?_;clear k;intro W k));refine bodyPost_ret (yj rfl _ rfl (yx k.out 1 rfl 58 rfl rfl)) rfl ⟨x',st',bo',rfl,k.out.out,HL.out.ok,HL.out.Im.trans BR.out.1,HL.out.Ou.trans BR.out.2.1,HL.out.Is.trans BR.out.2.2.1,HL.out.now.trans BR.out.2.2.2.1,HL.out.Tr.trans BR.out.2.2.2.2.1,HL.out.hst,⟨by have:=HL.out.hbo;omega,by have:=HL.out.hbo;omega⟩,fun e1 e2=> ?_,k.out.end⟩;have hg:=BR.out.2.2.2.2.2 e1;have hs:=HL.out.same hg e2;exact⟨by rw[hs.1];exact hg,hs.2⟩
def SCycR(n s:Nat)(x:Kn)(bo a0:Int)(X:Nat->Prop)(w:World)(e:Ending)(w':World):Prop:=
 ∃(x':Kn) (st' bo':Int),e= .returned (.agg (SC x' st' bo'))/\KSl x' X w' /\KOk n s 8 x' /\(∀r∈x'.Tr,atOf r<x'.now)/\x'.Im=x.Im/\x'.Ou=x.Ou/\x'.Is=x.Is/\x'.now=x.now+1/\(st'=1\/st'=2\/st'=3)/\(bo<=bo' /\bo'<=bo+1)/\(x.gone=1->a0=1->x'.gone=1/\st'=1)/\Below w.heap.size w w'
theorem scycle_any(n s:Nat)(p a0 a1 a2:Int)(x:Kn)(bo:Int)(X0:Nat->Prop)(w:World)(hX: ∀b,X0 b->b<w.heap.size)(hsl:KSl x X0 w)(hok:KOk n s 8 x)(hT:Tab w)(hnn:n+2*s+40<=1000000)(hnow:x.now<=900000)(hp0: -9223372036854775808<=p)(hp1:p<=9223372036854775807)(hb0:0<=bo)(hb1:bo<=1000000)(hI6:x.Im.length<=10000000):
  Calls Tryz.prog 42 #[.agg #[.int .i64 p,.int .i64 a0,.int .i64 a1,.int .i64 a2],.agg (SC x 1 bo)] w (SCycR (n+2*s+23) (s+1) x bo a0 X0 w):=by
 have k:Hid (St (fun _=>False) X0 w [] (KSl x) X0 w):=St.begin hX hsl (zO x);have OK:=Lib.hid hok;have HT:=Lib.hid hT;have hsz:(SC x 1 bo).size=19:=rfl;have hzp:=sc_zip x 1 bo;clear hok hsl hT;go_enter Tryz.func42,Tryz.ntmps42;go_wp2_with(first|((with_reducible refine zz ?_);refine lda k rfl rfl .a1 (by with_reducible assumption) ?_)|((with_reducible refine zI ?_);first|(refine bxa k (T:=58) rfl ?_;clear k;intro c58 X W k)|(refine bxa k (T:=76) rfl ?_;clear k;intro c76 X W k))|((with_reducible refine zf ?_);refine ala k Tryz.zeroValue58 ?_;clear k;intro b58 X W k));refine(sgoes_any x 1 bo _).mono ?_;rintro e W1 ⟨rfl,hb⟩;replace k:=zj (k.out.call hb);clear hb
 go_upto_region 4 with(first|((with_reducible refine zz ?_);refine lda k rfl rfl (by repeat constructor) (by first|with_reducible assumption|rfl) ?_)|((with_reducible refine zI ?_);refine bxa k (T:=99) rfl ?_;clear k;intro c99 X W k))
 clear hsz hzp;replace k:Hid (St _ _ _ [(c99,WC x 1 bo p a0 a1 a2,_),(b58,_,_),(c58,_,_),(c76,_,_)] _ _ _):=k;go_wp2_with((with_reducible refine zz ?_);refine ldp k rfl rfl .a0 (D:=KC x) (by rfl) (by rfl) ?_);refine(kstep_any n s x _ _ k.out.lt k.out.fact OK.out (jt HT.out k.out.only (fun h=>h)) (by omega) hnow).mono ?_;rintro e W2 ⟨x1,rfl,hsl1,hok1,htr1,him1,hou1,his1,hno1,hgo1,hb⟩;have hoK1:yZ (KC x1):=vY hsl1;have OK1:=Lib.hid hok1;have BR:Hid ((∀r∈x1.Tr,atOf r<x1.now)/\x1.Im=x.Im/\x1.Ou=x.Ou/\x1.Is=x.Is/\x1.now=x.now+1/\(x.gone≠0->x1.gone=x.gone/\x1.want=0)):=⟨htr1,him1,hou1,his1,hno1,hgo1⟩;replace k:=zj ((k.out.call hb).add hsl1 (zO _));clear hb hsl1 hok1 htr1 him1 hou1 his1 hno1 hgo1
 go_upto_region 5 with(first|((with_reducible refine zx ?_);refine sopt k rfl rfl rfl .a0 (by rfl) (by rfl) hoK1 (E:=WC x1 1 bo p a0 a1 a2) (G':=KSl x1) (by rfl) (zO _) (fun X W h=>h.2) ?_;clear k;intro W k)|fail)
 replace k:Hid (St _ _ _ [(c99,WC x1 1 bo p a0 a1 a2,_),(b58,_,_),(c58,_,_),(c76,_,_)] _ _ _):=k;by_cases hw1:x1.want=1
 ·go_upto_region 10 with(first|((with_reducible refine zx ?_);refine so1 k rfl rfl rfl rfl .a0 (by rfl) (E:=WC x1 2 bo p a0 a1 a2) (by rfl) ?_;clear k;intro W k)|((with_reducible refine zz ?_);refine ld1 k rfl rfl .a0 (by rfl) ?_))
  replace k:Hid (St _ _ _ [(c99,WC x1 2 bo p a0 a1 a2,_),(b58,_,_),(c58,_,_),(c76,_,_)] _ _ _):=k;go_wp2_with fail;refine(looks_any c99 (n+2*s+21) (s+1) x1 2 bo p a0 a1 a2 _ _ (k.out.blk (i:=0) rfl) (k.out.box (i:=0) rfl).1 k.out.lt k.out.fact OK1.out hp0 hp1 (by omega) (by omega) (by omega) (by omega) (by rw[BR.out.2.1];exact hI6)).mono ?_;rintro e W3 ⟨x',st',bo',rfl,hL,hsl3,hb⟩;replace k:=zj ((k.out.callM (i:=0) rfl hb).turn (fun _=>hsl3) (zO _));replace k:Hid (St _ _ _ [(c99,WC x' st' bo' p a0 a1 a2,_),(b58,_,_),(c58,_,_),(c76,_,_)] _ _ _):=k;have ho3:=Zb hsl3 st' bo';have HL:=Lib.hid hL;clear hb hsl3 hL;go_wp2_with(first|((with_reducible refine zz ?_);refine ldp k rfl rfl .a0 (D:=SC x' st' bo') (by rfl) (by rfl) ?_)|((with_reducible refine zx ?_);refine soa k rfl rfl rfl .a1 (by rfl) (by rfl) (by assumption) ?_;clear k;intro W k));refine bodyPost_ret (yj rfl _ rfl (yx k.out 1 rfl 58 rfl rfl)) rfl ⟨x',st',bo',rfl,k.out.out,HL.out.ok,(by rw[HL.out.Tr,HL.out.now];exact BR.out.1),HL.out.Im.trans BR.out.2.1,HL.out.Ou.trans BR.out.2.2.1,HL.out.Is.trans BR.out.2.2.2.1,HL.out.now.trans BR.out.2.2.2.2.1,(by have:=HL.out.hst;omega),HL.out.hbo,(fun h1 h2=>absurd (hw1.symm.trans (BR.out.2.2.2.2.2 (by omega)).2) (by decide)),k.out.end⟩
 ·by_cases hw2:x1.want=2
  ·go_upto_region 10 with(first|((with_reducible refine zx ?_);refine so1 k rfl rfl rfl rfl .a0 (by rfl) (E:=WC x1 3 bo p a0 a1 a2) (by rfl) ?_;clear k;intro W k)|((with_reducible refine zz ?_);refine ld1 k rfl rfl .a0 (by rfl) ?_))
   replace k:Hid (St _ _ _ [(c99,WC x1 3 bo p a0 a1 a2,_),(b58,_,_),(c58,_,_),(c76,_,_)] _ _ _):=k;go_wp2_with fail;refine(looks_any c99 (n+2*s+21) (s+1) x1 3 bo p a0 a1 a2 _ _ (k.out.blk (i:=0) rfl) (k.out.box (i:=0) rfl).1 k.out.lt k.out.fact OK1.out hp0 hp1 (by omega) (by omega) (by omega) (by omega) (by rw[BR.out.2.1];exact hI6)).mono ?_;rintro e W3 ⟨x',st',bo',rfl,hL,hsl3,hb⟩;replace k:=zj ((k.out.callM (i:=0) rfl hb).turn (fun _=>hsl3) (zO _));replace k:Hid (St _ _ _ [(c99,WC x' st' bo' p a0 a1 a2,_),(b58,_,_),(c58,_,_),(c76,_,_)] _ _ _):=k;have ho3:=Zb hsl3 st' bo';have HL:=Lib.hid hL;clear hb hsl3 hL;go_wp2_with(first|((with_reducible refine zz ?_);refine ldp k rfl rfl .a0 (D:=SC x' st' bo') (by rfl) (by rfl) ?_)|((with_reducible refine zx ?_);refine soa k rfl rfl rfl .a1 (by rfl) (by rfl) (by assumption) ?_;clear k;intro W k));refine bodyPost_ret (yj rfl _ rfl (yx k.out 1 rfl 58 rfl rfl)) rfl ⟨x',st',bo',rfl,k.out.out,HL.out.ok,(by rw[HL.out.Tr,HL.out.now];exact BR.out.1),HL.out.Im.trans BR.out.2.1,HL.out.Ou.trans BR.out.2.2.1,HL.out.Is.trans BR.out.2.2.2.1,HL.out.now.trans BR.out.2.2.2.2.1,(by have:=HL.out.hst;omega),HL.out.hbo,(fun h1 h2=>absurd (hw2.symm.trans (BR.out.2.2.2.2.2 (by omega)).2) (by decide)),k.out.end⟩
  ·have d1:(x1.want==1)=false:=by rw[beq_eq_false_iff_ne];exact hw1
   have d2:(x1.want==2)=false:=by rw[beq_eq_false_iff_ne];exact hw2
   have HW:Hid (x1.want≠1/\x1.want≠2):=⟨hw1,hw2⟩
   go_upto_region 10 with((with_reducible refine zz ?_);refine ld1 k rfl rfl .a0 (by rfl) ?_)
   replace k:Hid (St _ _ _ [(c99,WC x1 1 bo p a0 a1 a2,_),(b58,_,_),(c58,_,_),(c76,_,_)] _ _ _):=k;go_wp2_with fail;refine(looks_any c99 (n+2*s+21) (s+1) x1 1 bo p a0 a1 a2 _ _ (k.out.blk (i:=0) rfl) (k.out.box (i:=0) rfl).1 k.out.lt k.out.fact OK1.out hp0 hp1 (by omega) (by omega) (by omega) (by omega) (by rw[BR.out.2.1];exact hI6)).mono ?_;rintro e W3 ⟨x',st',bo',rfl,hL,hsl3,hb⟩;replace k:=zj ((k.out.callM (i:=0) rfl hb).turn (fun _=>hsl3) (zO _));replace k:Hid (St _ _ _ [(c99,WC x' st' bo' p a0 a1 a2,_),(b58,_,_),(c58,_,_),(c76,_,_)] _ _ _):=k;have ho3:=Zb hsl3 st' bo';have HL:=Lib.hid hL;clear hb hsl3 hL;go_wp2_with(first|((with_reducible refine zz ?_);refine ldp k rfl rfl .a0 (D:=SC x' st' bo') (by rfl) (by rfl) ?_)|((with_reducible refine zx ?_);refine soa k rfl rfl rfl .a1 (by rfl) (by rfl) (by assumption) ?_;clear k;intro W k));refine bodyPost_ret (yj rfl _ rfl (yx k.out 1 rfl 58 rfl rfl)) rfl ⟨x',st',bo',rfl,k.out.out,HL.out.ok,(by rw[HL.out.Tr,HL.out.now];exact BR.out.1),HL.out.Im.trans BR.out.2.1,HL.out.Ou.trans BR.out.2.2.1,HL.out.Is.trans BR.out.2.2.2.1,HL.out.now.trans BR.out.2.2.2.2.1,(by have:=HL.out.hst;omega),HL.out.hbo,(fun h1 h2=> ?_),k.out.end⟩;have hg:=(BR.out.2.2.2.2.2 (by omega)).1.trans h1;have hsm:=HL.out.same hg h2;exact⟨by rw[hsm.1];exact hg,hsm.2⟩
end
end Go.Proofs.YtaccidkgnkmagaaGreatDoor.Top
