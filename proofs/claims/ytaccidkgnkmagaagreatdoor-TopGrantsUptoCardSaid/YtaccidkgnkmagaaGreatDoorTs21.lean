/-
  Walks and laws of the whole machine: Boot. Conditions: each theorem names its own.
-/
import Derived.Test.YtaccidkgnkmagaaGreatDoorTs20
import Derived.Laws.MakeOwn
set_option maxRecDepth 16000
set_option maxHeartbeats 12800000
set_option linter.unusedVariables false
set_option linter.unusedSimpArgs false
namespace Go.Proofs.YtaccidkgnkmagaaGreatDoor.Top
section
open Go.RowKit Go.Proofs.YtaccidkgnkmagaaGreatDoor.Isa
def gl:Array Value:= #[.slice none 0 0,.int .i64 0]
theorem made_boxes(n:Nat)(hn:n<=6):(madeCells gl (n*2)).toList=yy (List.replicate n gl):=by
 have h: ∀k:Fin 7,(madeCells gl (k.val*2)).toList=yy (List.replicate k.val gl):=fun k=>by
  match k with
  |⟨0,_⟩=>exact(show(madeCells gl (0*2)).toList=yy (List.replicate 0 gl) by kernel_rfl)
  |⟨1,_⟩=>exact(show(madeCells gl (1*2)).toList=yy (List.replicate 1 gl) by kernel_rfl)
  |⟨2,_⟩=>exact(show(madeCells gl (2*2)).toList=yy (List.replicate 2 gl) by kernel_rfl)
  |⟨3,_⟩=>exact(show(madeCells gl (3*2)).toList=yy (List.replicate 3 gl) by kernel_rfl)
  |⟨4,_⟩=>exact(show(madeCells gl (4*2)).toList=yy (List.replicate 4 gl) by kernel_rfl)
  |⟨5,_⟩=>exact(show(madeCells gl (5*2)).toList=yy (List.replicate 5 gl) by kernel_rfl)
  |⟨6,_⟩=>exact(show(madeCells gl (6*2)).toList=yy (List.replicate 6 gl) by kernel_rfl)
 exact h ⟨n,by omega⟩
section
variable{w:World}{ops:Array Oper}{rest:List Oper}{o:Oper}{a:Act}{Q:Exit->Act->World->Prop}
theorem gg(hgd:o.guard=none){s1 s2:Operand}(ho:o.op= .makeSlice 52 s1 s2){n:Nat}(hn:n<=6)(hs1:ev a s1=some (.int .i64 n))(hs2:ev a s2=some (.int .i64 n))
  (h: ∀A w',w'.ownsRow w.heap.size 72 2 (.slice A n n) (List.replicate n gl).length (yy (List.replicate n gl))->Below w.heap.size w w'->wpList Tryz.prog ops Q rest (a.put o.dst (.slice A n n)) w'):wpList Tryz.prog ops Q (o::rest) a w:=by
 obtain⟨ht,f,z,hf,hz,hsE,hb1,hzs,hone⟩:=elBox;have hzz:z.cells=gl:=by
  have e:=Tryz.zeroValue72 w;simp[zeroValue,typeInfo,hf,hz] at e;rw[e];rfl
 refine wpList_plain hgd fun K hK=> ?_;obtain⟨w',hrun,hown,hgr⟩:=run_makeSlice_full (P:=Tryz.prog) (w:=w) w.heap.size 52 72 f z 2 ht hf hz hsE .i64 .i64 n (by omega) (by rw[hb1];omega) (by unfold maxLen;omega) (Nat.le_refl _);rw[hzz,made_boxes n hn] at hown;unfold Oper.wp execOp;simp only[ho,xO hs1,xO hs2,hrun,Sem.run_bind,Sem.run_pure,Result.andThen_ok];exact hK _ _ (h _ w' (by simpa using hown) ((Below.refl w.heap.size w).grown hgr (Nat.le_refl _) (fun k hk=>by cases hk)))
end
theorem at_make{P:Program}{ops:Array Oper}{rest:List Oper}{a:Act}{w:World}{Q:Exit->Act->World->Prop}{d:Option Tmp}{ty:TypeId}{pos:String}{af:Array Edge}{T:TypeId}{s1 s2:Operand}(h:wpList P ops Q (⟨d,.makeSlice T s1 s2,ty,pos,af,none⟩::rest) a w):wpList P ops Q (⟨d,.makeSlice T s1 s2,ty,pos,af,none⟩::rest) a w:=h
def BootG(vI:Value)(lI:List (Array Value))(vO:Value)(lO:List (Array Value))(vN:Value)(lN:List (Array Value))(X:Nat->Prop)(W:World):Prop:=Sl 1 vI lI X W/\Sl 5 vO lO X W/\Sl 5 vN lN X W
theorem xd(vI:Value)(lI:List (Array Value))(vO:Value)(lO:List (Array Value))(vN:Value)(lN:List (Array Value)):Per (BootG vI lI vO lO vN lN):=(zb _ _ _).and ((zb _ _ _).and (zb _ _ _))
def k0(v1 v2 v3 v4:Value)(now:Int)(lI lO lN:List (Array Value)):Kn:=
 {vP:= .slice none 0 0,vT:= .slice none 0 0,left:=0,vS:= .slice none 0 0,vPi:= .slice none 0 0,hsz:=0,vH:= .slice none 0 0,now:=now,vIm:=v1,vOu:=v2,vIs:=v3,vBx:=v4,cons:=⟨#[]⟩,vTr:= .slice none 0 0,vSe:= .slice none 0 0,want:=0,gone:=0,P:=[],T:=[],S:=[],Pi:=[],H:=[],Im:=lI,Ou:=lO,Is:=lN,Bx:=List.replicate lN.length gl,Tr:=[],Se:=[]}
theorem k0_sl{v1 v2 v3 v4:Value}{now:Int}{lI lO lN:List (Array Value)}{X:Nat->Prop}{W:World}(h1:Sl 1 v1 lI X W)(h2:Sl 5 v2 lO X W)(h3:Sl 5 v3 lN X W)(h4:Sl 2 v4 (List.replicate lN.length gl) X W):KSl (k0 v1 v2 v3 v4 now lI lO lN) X W:=
 ⟨qz _ _ _,qz _ _ _,qz _ _ _,qz _ _ _,qz _ _ _,h1,h2,h3,h4,qz _ _ _,qz _ _ _,fun r hr=>by
  rw[List.eq_of_mem_replicate hr];exact⟨.slice none 0 0,[],0,⟨rfl,(fun _ h=>by cases h),Nat.zero_le _,by decide,by decide⟩,qz _ _ _⟩⟩
theorem k0_ok{v1 v2 v3 v4:Value}{now:Int}{lI lO lN:List (Array Value)}{g hs:Int}(n s m:Nat)(hg:lI=[]->g=1)(hI: ∀r∈lI,∃t:ByteArray,r= #[.string t])(hO: ∀r∈lO,ChanOk r)(hN: ∀r∈lN,ChanOk r)(hO6:lO.length<=6)(hN6:lN.length<=6)(hn0:0<=now)(hn1:now<=1000000)(hh0: -9223372036854775808<=hs)(hh1:hs<=9223372036854775807):
  KOk n s m {k0 v1 v2 v3 v4 now lI lO lN with gone:=g,hsz:=hs}:=
 {P:=⟨(fun _ h=>by cases h),(fun _ h=>by cases h),(fun _ h=>by cases h),List.nodup_nil,Nat.zero_le _⟩,T:=(fun _ h=>by cases h),Tl:=Nat.zero_le _,S:=(fun _ h=>by cases h),Sl:=Nat.zero_le _,Pi:=(fun _ h=>by cases h),Pil:=Nat.zero_le _,H:=(fun _ h=>by cases h),Hl:=Nat.zero_le _,Im:=hI,Ou:=hO,Is:=hN,Bxl:=List.length_replicate,Isl:=hN6,Oul:=hO6,Tr:=⟨(fun _ h=>by cases h),(fun _ h=>by cases h),(fun _ h=>by cases h),List.Pairwise.nil,Nat.zero_le _⟩,Se:=(fun _ h=>by cases h),Sel:=Nat.zero_le _,cons:=Nat.zero_le _,hsz:=⟨hh0,hh1⟩,now:=⟨hn0,hn1⟩,want:=⟨show(0:Int)<=0 by decide,show(0:Int)<=10 by decide⟩,idle:=hg}
def KBootR(n s m:Nat)(lI lO lN:List (Array Value))(now:Int)(X:Nat->Prop)(w:World)(e:Ending)(w':World):Prop:=
 ∃x,e= .returned (.agg (KC x))/\KSl x X w' /\KOk (n+2) s m x/\x.Im=lI/\x.Ou=lO/\x.Is=lN/\x.now=now/\x.Tr=[]/\x.want=0/\(lI=[]->x.gone=1)/\Below w.heap.size w w'
theorem boot_row(q:ByteArray)(hq:q.size<=64):
  Ty yu #[.int .i64 0,.int .i64 0,.int .i64 0,.int .u32 0,.int .u32 0,.int .u32 0,.int .u32 0,.int .u32 0,.int .u32 0,.int .u32 0,.int .u32 0,.int .u32 0,.string q,.int .i64 0,.int .i64 0,.bool false,.int .i64 0,.bool false,.int .i64 0,.bool false,.int .i64 0,.bool false,.int .u32 0,.int .u32 0,.int .u32 0,.int .u32 0]:=
 zProc_ty.set (j:=12) rfl (Zk hq)
theorem boot_any(mem:Int)(vI:Value)(lI:List (Array Value))(vO:Value)(lO:List (Array Value))(vN:Value)(lN:List (Array Value))(now:Int)(n s m:Nat)(X0:Nat->Prop)(w:World)(hX: ∀b,X0 b->b<w.heap.size)(hsl:BootG vI lI vO lO vN lN X0 w)
  (hI: ∀r∈lI,∃t:ByteArray,r= #[.string t]) (hO: ∀r∈lO,ChanOk r) (hN: ∀r∈lN,ChanOk r) (hI6:lI.length<=10000000) (hO6:lO.length<=6) (hN6:lN.length<=6) (hn0:0<=now) (hn1:now<=1000000) (hm0: -9223372036854775808<=mem) (hm1:mem<=9223372036854775807) (hnn:n+2<=1000000) (hss:s<=1000000) (hmm:m<=1000000):
  Calls Tryz.prog 34 #[.int .i64 mem,vI,vO,vN,.int .u64 now] w (KBootR n s m lI lO lN now X0 w):=by
 obtain⟨An,cn,rfl,hlc,hcm⟩:=hsl.2.2.len;have k:Hid (St (fun _=>False) X0 w [] (BootG vI lI vO lO (.slice An lN.length cn) lN) X0 w):=St.begin hX hsl (xd _ _ _ _ _ _);have HI:=Lib.hid hI;have HO:=Lib.hid hO;have HN:=Lib.hid hN;have hone1:Hid (∀r∈lI,yZ r):=fun r hr=>by obtain⟨t,rfl⟩:=hI r hr;exact zm rfl
 have hone2:Hid (∀r∈lO,yZ r):=fun r hr=>(hO r hr).1.one;have hone3:Hid (∀r∈lN,yZ r):=fun r hr=>(hN r hr).1.one;have hsz1:Hid (∀r∈lI,r.size=1):=fun r hr=>by obtain⟨t,rfl⟩:=hI r hr;rfl
 have hsz2:Hid (∀r∈lO,r.size=5):=fun r hr=>(hO r hr).1.size;have hsz3:Hid (∀r∈lN,r.size=5):=fun r hr=>(hN r hr).1.size;clear hsl hI hO hN hcm;go_enter Tryz.func34,Tryz.ntmps34
 go_upto_region 1 with((with_reducible refine zf ?_);refine ala k Tryz.zeroValue56 ?_;clear k;intro b56 X W k)
 replace k:Hid (St _ _ _ [(b56,KC (k0 (.slice none 0 0) (.slice none 0 0) (.slice none 0 0) (.slice none 0 0) 0 lI lO lN),_)] _ _ _):=k;try simp only[Act.put,tS,t0,t1]
 go_cut [11] from 14 to 26 (fun s11 wx=> ∃(bk:Nat) (v1 v2 v3 v4:Value) (X:Nat->Prop),s11= .pointer (some ⟨bk,0,none⟩)/\Hid (St (fun _=>False) X0 w [(bk,KC (k0 v1 v2 v3 v4 now lI lO lN),116),(b56,KC (k0 (.slice none 0 0) (.slice none 0 0) (.slice none 0 0) (.slice none 0 0) 0 lI lO lN),56)] (KSl (k0 v1 v2 v3 v4 now lI lO lN)) X wx))
 case first=>
  have HPer:=Lib.hid k.out.per;refine zt k 12 14 (by kernel_rfl) rfl ?_;clear k;intro W k;refine zq [(0,some 14,[1,10,11,12]),(2,some 16,[3,10,11,12]),(4,some 18,[5,10,11,12]),(6,some 20,[7,8,10,11,12]),(7,some 21,[8,10,11,12]),(9,some 23,[10,11,12])] [?v1_0,?v1_2,?v1_4,?v1_6,?v1_7,?v1_9] 8 (by kernel_rfl) ⟨_,k.out⟩ ?l1 ?h1;case l1=>
   intro w' hSw;iterate 6
    refine lkw rfl rfl (by rfl) ?_ ?_
    ·go_simp<;>with_reducible rfl
    try simp only[Act.put,tS,t0,t1]
   trivial
  simp only[zw,zk,Act.put,tS,t0,t1];refine yI (i:=1) (j:=8) (fuel:=7) (by kernel_rfl) rfl rfl ?_ ?_
  ·go_wp2_with fail
   refine(cloneStr_any vI lI _ _ k.out.fact.1 hone1.out (by omega)).mono ?_;rintro e W1 ⟨v1,rfl,hown,hb⟩;obtain⟨A1,c1,rfl,_⟩:=yb hown;have hf:=zV hown hsz1.out k.out.lt;replace k:=zj ((k.out.call hb).add hf (zb _ _ _));clear hown hb hf;go_wp2_with fail;refine zd (yz ⟨_,(k.out).turn (fun h=>h.1) (xd _ _ _ _ _ _)⟩) ?_;refine yI (i:=3) (j:=8) (fuel:=6) (by kernel_rfl) rfl rfl ?_ ?_
   ·go_wp2_with fail
    refine(qO vO lO _ _ k.out.fact.1.2.1 hone2.out (by omega)).mono ?_;rintro e W1 ⟨v2,rfl,hown,hb⟩;obtain⟨A2,c2,rfl,_⟩:=yb hown;have hf:=zV hown hsz2.out k.out.lt;replace k:=zj ((k.out.call hb).add hf (zb _ _ _));clear hown hb hf;go_wp2_with fail;refine zd (yz ⟨_,(k.out).turn (fun h=>h.1.1) (xd _ _ _ _ _ _)⟩) ?_;refine yI (i:=5) (j:=8) (fuel:=5) (by kernel_rfl) rfl rfl ?_ ?_
    ·go_wp2_with fail
     refine(qO (.slice An lN.length cn) lN _ _ k.out.fact.1.1.2.2 hone3.out (by omega)).mono ?_;rintro e W1 ⟨v3,rfl,hown,hb⟩;obtain⟨A3,c3,rfl,_⟩:=yb hown;have hf:=zV hown hsz3.out k.out.lt;replace k:=zj ((k.out.call hb).add hf (zb _ _ _));clear hown hb hf;go_wp2_with fail;refine zd (yz ⟨_,(k.out).turn (fun h=>h.1.1.1) (xd _ _ _ _ _ _)⟩) ?_;refine w1 8 4 (by kernel_rfl) rfl ?_;go_wp2_with((with_reducible refine at_make ?_);refine gg rfl rfl hN6 rfl rfl ?_;intro A4 W2 hown hb);have hf:=zV hown (fun r hr=>by rw[List.eq_of_mem_replicate hr];rfl) k.out.lt;replace k:=zj ((k.out.call hb).add hf (zb _ _ _));clear hown hb hf;refine zd (yz ⟨_,(k.out).turn (fun h=>h.1.1.1.1) (xd _ _ _ _ _ _)⟩) ?_;refine zq [(10,some 24,[11,12]),(11,some 25,[12])] [?v2_10,?v2_11] 2 (by kernel_rfl) ⟨_,(k.out).turn (fun h=>h.1.1.1.1) (xd _ _ _ _ _ _)⟩ ?l2 ?h2;case l2=>
      intro w' hSw;iterate 2
       refine lkw rfl rfl (by rfl) ?_ ?_
       ·go_simp<;>with_reducible rfl
       try simp only[Act.put,tS,t0,t1]
      trivial
     simp only[zw,zk,Act.put,tS,t0,t1];refine w1 12 1 (by kernel_rfl) rfl ?_;go_wp2_with((with_reducible refine zI ?_);refine bxa k (T:=116) rfl ?_;clear k;intro bk X W k);refine zd (zJ rfl) ?_;refine zU [(13,some 11,[])] [?v3_13] 0 (by kernel_rfl) (.inr (by kernel_rfl)) ?l3 ?h3;case l3=>
      intro w';refine lkw rfl rfl (by rfl) ?_ ?_
      ·go_simp<;>with_reducible rfl
      try simp only[Act.put,tS,t0,t1]
      trivial
     simp only[zw,zk,Act.put,tS,t0,t1];refine zv (by kernel_rfl) ?_ _;clear HPer;replace k:=zj (k.out.turn (H:=KSl (k0 (.slice A1 lI.length c1) (.slice A2 lO.length c2) (.slice A3 lN.length c3) (.slice A4 lN.length lN.length) now lI lO lN)) (fun h=>k0_sl h.1.1.1.2 h.1.1.2 h.1.2 h.2) (zO _));replace k:Hid (St _ _ _ [(bk,KC (k0 (.slice A1 lI.length c1) (.slice A2 lO.length c2) (.slice A3 lN.length c3) (.slice A4 lN.length lN.length) now lI lO lN),_),(b56,_,_)] _ _ _):=k;go_wp2_with fail
     go_meet
     exact⟨bk,_,_,_,_,_,rfl,k⟩
    ·go_wp2_with((with_reducible refine at_make ?_);refine gg rfl rfl hN6 rfl rfl ?_;intro A4 W2 hown hb)
     have hf:=zV hown (fun r hr=>by rw[List.eq_of_mem_replicate hr];rfl) k.out.lt;replace k:=zj ((k.out.call hb).add hf (zb _ _ _));clear hown hb hf;refine zd (yz ⟨_,(k.out).turn (fun h=>h.1.1.1) (xd _ _ _ _ _ _)⟩) ?_;refine w1 5 4 (by kernel_rfl) rfl ?_;go_wp2_with fail;refine(qO (.slice An lN.length cn) lN _ _ k.out.fact.1.1.1.2.2 hone3.out (by omega)).mono ?_;rintro e W1 ⟨v3,rfl,hown,hb⟩;obtain⟨A3,c3,rfl,_⟩:=yb hown;have hf:=zV hown hsz3.out k.out.lt;replace k:=zj ((k.out.call hb).add hf (zb _ _ _));clear hown hb hf;go_wp2_with fail;refine zd (yz ⟨_,(k.out).turn (fun h=>h.1.1.1.1) (xd _ _ _ _ _ _)⟩) ?_;refine zq [(10,some 24,[11,12]),(11,some 25,[12])] [?v4_10,?v4_11] 2 (by kernel_rfl) ⟨_,(k.out).turn (fun h=>h.1.1.1.1) (xd _ _ _ _ _ _)⟩ ?l4 ?h4;case l4=>
      intro w' hSw;iterate 2
       refine lkw rfl rfl (by rfl) ?_ ?_
       ·go_simp<;>with_reducible rfl
       try simp only[Act.put,tS,t0,t1]
      trivial
     simp only[zw,zk,Act.put,tS,t0,t1];refine w1 12 1 (by kernel_rfl) rfl ?_;go_wp2_with((with_reducible refine zI ?_);refine bxa k (T:=116) rfl ?_;clear k;intro bk X W k);refine zd (zJ rfl) ?_;refine zU [(13,some 11,[])] [?v5_13] 0 (by kernel_rfl) (.inr (by kernel_rfl)) ?l5 ?h5;case l5=>
      intro w';refine lkw rfl rfl (by rfl) ?_ ?_
      ·go_simp<;>with_reducible rfl
      try simp only[Act.put,tS,t0,t1]
      trivial
     simp only[zw,zk,Act.put,tS,t0,t1];refine zv (by kernel_rfl) ?_ _;clear HPer;replace k:=zj (k.out.turn (H:=KSl (k0 (.slice A1 lI.length c1) (.slice A2 lO.length c2) (.slice A3 lN.length c3) (.slice A4 lN.length lN.length) now lI lO lN)) (fun h=>k0_sl h.1.1.1.2 h.1.1.2 h.2 h.1.2) (zO _));replace k:Hid (St _ _ _ [(bk,KC (k0 (.slice A1 lI.length c1) (.slice A2 lO.length c2) (.slice A3 lN.length c3) (.slice A4 lN.length lN.length) now lI lO lN),_),(b56,_,_)] _ _ _):=k;go_wp2_with fail
     go_meet
     exact⟨bk,_,_,_,_,_,rfl,k⟩
   ·go_wp2_with((with_reducible refine at_make ?_);refine gg rfl rfl hN6 rfl rfl ?_;intro A4 W2 hown hb)
    have hf:=zV hown (fun r hr=>by rw[List.eq_of_mem_replicate hr];rfl) k.out.lt;replace k:=zj ((k.out.call hb).add hf (zb _ _ _));clear hown hb hf;refine zd (yz ⟨_,(k.out).turn (fun h=>h.1.1) (xd _ _ _ _ _ _)⟩) ?_;refine w1 3 5 (by kernel_rfl) rfl ?_;go_wp2_with fail;refine(qO vO lO _ _ k.out.fact.1.1.2.1 hone2.out (by omega)).mono ?_;rintro e W1 ⟨v2,rfl,hown,hb⟩;obtain⟨A2,c2,rfl,_⟩:=yb hown;have hf:=zV hown hsz2.out k.out.lt;replace k:=zj ((k.out.call hb).add hf (zb _ _ _));clear hown hb hf;go_wp2_with fail;refine zd (yz ⟨_,(k.out).turn (fun h=>h.1.1.1) (xd _ _ _ _ _ _)⟩) ?_;refine w1 5 4 (by kernel_rfl) rfl ?_;go_wp2_with fail;refine(qO (.slice An lN.length cn) lN _ _ k.out.fact.1.1.1.2.2 hone3.out (by omega)).mono ?_;rintro e W1 ⟨v3,rfl,hown,hb⟩;obtain⟨A3,c3,rfl,_⟩:=yb hown;have hf:=zV hown hsz3.out k.out.lt;replace k:=zj ((k.out.call hb).add hf (zb _ _ _));clear hown hb hf;go_wp2_with fail;refine zd (yz ⟨_,(k.out).turn (fun h=>h.1.1.1.1) (xd _ _ _ _ _ _)⟩) ?_;refine zq [(10,some 24,[11,12]),(11,some 25,[12])] [?v6_10,?v6_11] 2 (by kernel_rfl) ⟨_,(k.out).turn (fun h=>h.1.1.1.1) (xd _ _ _ _ _ _)⟩ ?l6 ?h6;case l6=>
     intro w' hSw;iterate 2
      refine lkw rfl rfl (by rfl) ?_ ?_
      ·go_simp<;>with_reducible rfl
      try simp only[Act.put,tS,t0,t1]
     trivial
    simp only[zw,zk,Act.put,tS,t0,t1];refine w1 12 1 (by kernel_rfl) rfl ?_;go_wp2_with((with_reducible refine zI ?_);refine bxa k (T:=116) rfl ?_;clear k;intro bk X W k);refine zd (zJ rfl) ?_;refine zU [(13,some 11,[])] [?v7_13] 0 (by kernel_rfl) (.inr (by kernel_rfl)) ?l7 ?h7;case l7=>
     intro w';refine lkw rfl rfl (by rfl) ?_ ?_
     ·go_simp<;>with_reducible rfl
     try simp only[Act.put,tS,t0,t1]
     trivial
    simp only[zw,zk,Act.put,tS,t0,t1];refine zv (by kernel_rfl) ?_ _;clear HPer;replace k:=zj (k.out.turn (H:=KSl (k0 (.slice A1 lI.length c1) (.slice A2 lO.length c2) (.slice A3 lN.length c3) (.slice A4 lN.length lN.length) now lI lO lN)) (fun h=>k0_sl h.1.1.1.2 h.1.2 h.2 h.1.1.2) (zO _));replace k:Hid (St _ _ _ [(bk,KC (k0 (.slice A1 lI.length c1) (.slice A2 lO.length c2) (.slice A3 lN.length c3) (.slice A4 lN.length lN.length) now lI lO lN),_),(b56,_,_)] _ _ _):=k;go_wp2_with fail
    go_meet
    exact⟨bk,_,_,_,_,_,rfl,k⟩
  ·go_wp2_with((with_reducible refine at_make ?_);refine gg rfl rfl hN6 rfl rfl ?_;intro A4 W2 hown hb)
   have hf:=zV hown (fun r hr=>by rw[List.eq_of_mem_replicate hr];rfl) k.out.lt;replace k:=zj ((k.out.call hb).add hf (zb _ _ _));clear hown hb hf;refine zd (yz ⟨_,(k.out).turn (fun h=>h.1) (xd _ _ _ _ _ _)⟩) ?_;refine w1 1 6 (by kernel_rfl) rfl ?_;go_wp2_with fail;refine(cloneStr_any vI lI _ _ k.out.fact.1.1 hone1.out (by omega)).mono ?_;rintro e W1 ⟨v1,rfl,hown,hb⟩;obtain⟨A1,c1,rfl,_⟩:=yb hown;have hf:=zV hown hsz1.out k.out.lt;replace k:=zj ((k.out.call hb).add hf (zb _ _ _));clear hown hb hf;go_wp2_with fail;refine zd (yz ⟨_,(k.out).turn (fun h=>h.1.1) (xd _ _ _ _ _ _)⟩) ?_;refine w1 3 5 (by kernel_rfl) rfl ?_;go_wp2_with fail;refine(qO vO lO _ _ k.out.fact.1.1.2.1 hone2.out (by omega)).mono ?_;rintro e W1 ⟨v2,rfl,hown,hb⟩;obtain⟨A2,c2,rfl,_⟩:=yb hown;have hf:=zV hown hsz2.out k.out.lt;replace k:=zj ((k.out.call hb).add hf (zb _ _ _));clear hown hb hf;go_wp2_with fail;refine zd (yz ⟨_,(k.out).turn (fun h=>h.1.1.1) (xd _ _ _ _ _ _)⟩) ?_;refine w1 5 4 (by kernel_rfl) rfl ?_;go_wp2_with fail;refine(qO (.slice An lN.length cn) lN _ _ k.out.fact.1.1.1.2.2 hone3.out (by omega)).mono ?_;rintro e W1 ⟨v3,rfl,hown,hb⟩;obtain⟨A3,c3,rfl,_⟩:=yb hown;have hf:=zV hown hsz3.out k.out.lt;replace k:=zj ((k.out.call hb).add hf (zb _ _ _));clear hown hb hf;go_wp2_with fail;refine zd (yz ⟨_,(k.out).turn (fun h=>h.1.1.1.1) (xd _ _ _ _ _ _)⟩) ?_;refine zq [(10,some 24,[11,12]),(11,some 25,[12])] [?v8_10,?v8_11] 2 (by kernel_rfl) ⟨_,(k.out).turn (fun h=>h.1.1.1.1) (xd _ _ _ _ _ _)⟩ ?l8 ?h8;case l8=>
    intro w' hSw;iterate 2
     refine lkw rfl rfl (by rfl) ?_ ?_
     ·go_simp<;>with_reducible rfl
     try simp only[Act.put,tS,t0,t1]
    trivial
   simp only[zw,zk,Act.put,tS,t0,t1];refine w1 12 1 (by kernel_rfl) rfl ?_;go_wp2_with((with_reducible refine zI ?_);refine bxa k (T:=116) rfl ?_;clear k;intro bk X W k);refine zd (zJ rfl) ?_;refine zU [(13,some 11,[])] [?v9_13] 0 (by kernel_rfl) (.inr (by kernel_rfl)) ?l9 ?h9;case l9=>
    intro w';refine lkw rfl rfl (by rfl) ?_ ?_
    ·go_simp<;>with_reducible rfl
    try simp only[Act.put,tS,t0,t1]
    trivial
   simp only[zw,zk,Act.put,tS,t0,t1];refine zv (by kernel_rfl) ?_ _;clear HPer;replace k:=zj (k.out.turn (H:=KSl (k0 (.slice A1 lI.length c1) (.slice A2 lO.length c2) (.slice A3 lN.length c3) (.slice A4 lN.length lN.length) now lI lO lN)) (fun h=>k0_sl h.1.1.2 h.1.2 h.2 h.1.1.1.2) (zO _));replace k:Hid (St _ _ _ [(bk,KC (k0 (.slice A1 lI.length c1) (.slice A2 lO.length c2) (.slice A3 lN.length c3) (.slice A4 lN.length lN.length) now lI lO lN),_),(b56,_,_)] _ _ _):=k;go_wp2_with fail
   go_meet
   exact⟨bk,_,_,_,_,_,rfl,k⟩
 case rest=>
 obtain⟨bk,v1,v2,v3,v4,X,rfl,k2⟩:=hcut;clear k;have k:=k2;clear k2;go_wp2_with fail;refine(hnew_any mem _ hm0 hm1).mono ?_;rintro e W1 ⟨hx,y1,rfl,hx0,hx1,hy1,hb⟩;replace k:=zj (k.out.call hb);clear hb hy1
 go_upto_region 3 with(first|((with_reducible refine zx ?_);refine sopt k (E:=KC {k0 v1 v2 v3 v4 now lI lO lN with hsz:=hx}) (G':=KSl {k0 v1 v2 v3 v4 now lI lO lN with hsz:=hx}) rfl rfl rfl .a0 (by rfl) (by rfl) (zm rfl) (by rfl) (zO _) (fun X W h=>{h with}) ?_;clear k;intro W k)|fail)
 obtain⟨x1,hxe⟩: ∃x1:Kn,x1={k0 v1 v2 v3 v4 now lI lO lN with hsz:=hx}:=⟨_,rfl⟩;replace k:Hid (St _ _ _ [(bk,KC {k0 v1 v2 v3 v4 now lI lO lN with hsz:=hx},_),(b56,_,_)] (KSl {k0 v1 v2 v3 v4 now lI lO lN with hsz:=hx}) _ _):=k;have OKG:Hid (∀g,(lI=[]->g=1)->KOk n s m {x1 with gone:=g}):=by
  rw[hxe];exact fun g hg=>k0_ok n s m hg HI.out HO.out HN.out hO6 hN6 hn0 hn1 hx0 hx1
 have HF:Hid (x1.Im=lI/\x1.Ou=lO/\x1.Is=lN/\x1.now=now/\x1.Tr=[]/\x1.want=0):=by rw[hxe];exact⟨rfl,rfl,rfl,rfl,rfl,rfl⟩
 rw[<-hxe] at k;clear hxe hx0 hx1;go_wp2_with fail;refine(image_w bk x1 _ _ (k.out.blk (i:=0) rfl) k.out.fact.Im (by rw[HF.out.1];exact HI.out) 0 (by omega) (by omega)).mono ?_;rintro e W2 ⟨⟨q,y2,rfl,hq,hy2,hb⟩,hnone⟩;replace k:=zj (k.out.call hb);clear hb;have HNO:Hid (lI=[]->y2=7):=fun e=>by
  obtain⟨q',y',e1,e2⟩:=hnone (by rw[HF.out.1];exact e);injection e1 with e1;injection e1 with e1;have e3:=congrArg (fun a:Array Value=>a[1]?) e1;simp at e3;omega
 clear hnone;rcases hy2 with rfl|rfl|rfl
 ·have hne:Hid (lI≠ []):=fun e=>by have:=HNO.out e;omega
  go_wp2_with fail;refine(fresh_any bk n s m x1 _ _ ⟨k.out.blk (i:=0) rfl,(k.out.box (i:=0) rfl).1,k.out.lt,k.out.fact,OKG.out x1.gone (fun e=>absurd e hne.out),(by omega),hss,hmm⟩ _ (boot_row q hq) (.inl rfl)).mono ?_;rintro e W3 ⟨x2,⟨z,y3,rfl,hz0,hz1,hy3,hLv,hpp,hgo,hwa,htr⟩,hok2,hsl2,hrel2,hb⟩;replace k:=zj (k.out.kcall (i:=0) rfl hb hsl2);have OK2:=Lib.hid hok2;have REL2:=Lib.hid hrel2;have HTR:Hid (x2.Tr=x1.Tr/\x2.want=x1.want):=⟨htr,hwa⟩;clear hb hsl2 hok2 hrel2 hgo hwa htr hLv hpp;replace k:Hid (St _ _ _ [(bk,KC x2,_),(b56,_,_)] _ _ _):=k;have hoK:yZ (KC x2):=vY k.out.fact;rcases hy3 with rfl|rfl|rfl
  ·go_wp2_with(first|((with_reducible refine zz ?_);refine lda k rfl rfl .a0 (by rfl) ?_)|((with_reducible refine zx ?_);refine soa k rfl rfl rfl .a1 (by rfl) (by rfl) (by assumption) ?_;clear k;intro W k))
   exact bodyPost_ret (yj rfl _ rfl (zY k.out 1 rfl 56 (Tryz.isAgg56 _) (Tryz.sizeOf56 _) rfl)) rfl ⟨x2,rfl,k.out.out,OK2.out,REL2.out.Im.trans HF.out.1,REL2.out.Ou.trans HF.out.2.1,REL2.out.Is.trans HF.out.2.2.1,REL2.out.now.trans HF.out.2.2.2.1,HTR.out.1.trans HF.out.2.2.2.2.1,HTR.out.2.trans HF.out.2.2.2.2.2,(fun e=>absurd e hne.out),k.out.end⟩
  ·have hoK:yZ (KC {x2 with gone:=1}):=vY (x:={x2 with gone:=1}) {k.out.fact with}
   go_wp2_with(first|((with_reducible refine zx ?_);refine yE k (E:=KC {x2 with gone:=1}) (G':=KSl {x2 with gone:=1}) rfl rfl rfl rfl (by repeat constructor) (by rfl) (by rfl) (zO _) (fun X W h=>{h with}) ?_;clear k;intro W k)|(first|((with_reducible refine zz ?_);refine lda k rfl rfl .a0 (by rfl) ?_)|((with_reducible refine zx ?_);refine soa k rfl rfl rfl .a1 (by rfl) (by rfl) (by assumption) ?_;clear k;intro W k)));exact bodyPost_ret (yj rfl _ rfl (zY k.out 1 rfl 56 (Tryz.isAgg56 _) (Tryz.sizeOf56 _) rfl)) rfl ⟨{x2 with gone:=1},rfl,k.out.out,{OK2.out with idle:=(fun _=>rfl)},REL2.out.Im.trans HF.out.1,REL2.out.Ou.trans HF.out.2.1,REL2.out.Is.trans HF.out.2.2.1,REL2.out.now.trans HF.out.2.2.2.1,HTR.out.1.trans HF.out.2.2.2.2.1,HTR.out.2.trans HF.out.2.2.2.2.2,(fun _=>rfl),k.out.end⟩
  ·have hoK:yZ (KC {x2 with gone:=1}):=vY (x:={x2 with gone:=1}) {k.out.fact with}
   go_wp2_with(first|((with_reducible refine zx ?_);refine yE k (E:=KC {x2 with gone:=1}) (G':=KSl {x2 with gone:=1}) rfl rfl rfl rfl (by repeat constructor) (by rfl) (by rfl) (zO _) (fun X W h=>{h with}) ?_;clear k;intro W k)|(first|((with_reducible refine zz ?_);refine lda k rfl rfl .a0 (by rfl) ?_)|((with_reducible refine zx ?_);refine soa k rfl rfl rfl .a1 (by rfl) (by rfl) (by assumption) ?_;clear k;intro W k)));exact bodyPost_ret (yj rfl _ rfl (zY k.out 1 rfl 56 (Tryz.isAgg56 _) (Tryz.sizeOf56 _) rfl)) rfl ⟨{x2 with gone:=1},rfl,k.out.out,{OK2.out with idle:=(fun _=>rfl)},REL2.out.Im.trans HF.out.1,REL2.out.Ou.trans HF.out.2.1,REL2.out.Is.trans HF.out.2.2.1,REL2.out.now.trans HF.out.2.2.2.1,HTR.out.1.trans HF.out.2.2.2.2.1,HTR.out.2.trans HF.out.2.2.2.2.2,(fun _=>rfl),k.out.end⟩
 ·have hoK:yZ (KC {x1 with gone:=1}):=vY (x:={x1 with gone:=1}) {k.out.fact with}
  go_wp2_with(first|((with_reducible refine zx ?_);refine yE k (E:=KC {x1 with gone:=1}) (G':=KSl {x1 with gone:=1}) rfl rfl rfl rfl (by repeat constructor) (by rfl) (by rfl) (zO _) (fun X W h=>{h with}) ?_;clear k;intro W k)|(first|((with_reducible refine zz ?_);refine lda k rfl rfl .a0 (by rfl) ?_)|((with_reducible refine zx ?_);refine soa k rfl rfl rfl .a1 (by rfl) (by rfl) (by assumption) ?_;clear k;intro W k)));exact bodyPost_ret (yj rfl _ rfl (zY k.out 1 rfl 56 (Tryz.isAgg56 _) (Tryz.sizeOf56 _) rfl)) rfl ⟨{x1 with gone:=1},rfl,k.out.out,(OKG.out 1 (fun _=>rfl)).mono (by omega) (Nat.le_refl _) (Nat.le_refl _),HF.out.1,HF.out.2.1,HF.out.2.2.1,HF.out.2.2.2.1,HF.out.2.2.2.2.1,HF.out.2.2.2.2.2,(fun _=>rfl),k.out.end⟩
 ·have hoK:yZ (KC {x1 with gone:=1}):=vY (x:={x1 with gone:=1}) {k.out.fact with}
  go_wp2_with(first|((with_reducible refine zx ?_);refine yE k (E:=KC {x1 with gone:=1}) (G':=KSl {x1 with gone:=1}) rfl rfl rfl rfl (by repeat constructor) (by rfl) (by rfl) (zO _) (fun X W h=>{h with}) ?_;clear k;intro W k)|(first|((with_reducible refine zz ?_);refine lda k rfl rfl .a0 (by rfl) ?_)|((with_reducible refine zx ?_);refine soa k rfl rfl rfl .a1 (by rfl) (by rfl) (by assumption) ?_;clear k;intro W k)));exact bodyPost_ret (yj rfl _ rfl (zY k.out 1 rfl 56 (Tryz.isAgg56 _) (Tryz.sizeOf56 _) rfl)) rfl ⟨{x1 with gone:=1},rfl,k.out.out,(OKG.out 1 (fun _=>rfl)).mono (by omega) (Nat.le_refl _) (Nat.le_refl _),HF.out.1,HF.out.2.1,HF.out.2.2.1,HF.out.2.2.2.1,HF.out.2.2.2.2.1,HF.out.2.2.2.2.2,(fun _=>rfl),k.out.end⟩
end
end Go.Proofs.YtaccidkgnkmagaaGreatDoor.Top
