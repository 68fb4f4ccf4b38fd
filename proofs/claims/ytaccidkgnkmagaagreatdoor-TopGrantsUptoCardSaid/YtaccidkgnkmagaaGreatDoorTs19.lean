/-
  Walks and laws of the whole machine: Cpu, Cpu2, Kern16. Conditions: each theorem names its own.
-/
import Derived.Test.YtaccidkgnkmagaaGreatDoorTs18
set_option maxRecDepth 16000
set_option maxHeartbeats 12800000
set_option linter.unusedVariables false
set_option linter.unusedSimpArgs false
namespace Go.Proofs.YtaccidkgnkmagaaGreatDoor.Top
section
open Go.RowKit Go.Proofs.YtaccidkgnkmagaaGreatDoor.Isa
def CpuC(C:Array Value):Prop:=C.size=9/\ ∀j,j<9-> ∃x:Int,C[j]? =some (.int .u32 x)/\0<=x/\x<4294967296
theorem CpuC.set{C:Array Value}(h:CpuC C)(k:Nat)(y:Int)(h0:0<=y)(h1:y<4294967296):CpuC (C.setIfInBounds k (.int .u32 y)):=by
 refine⟨by simpa using h.1,fun j hj=> ?_⟩;by_cases e:j=k
 ·subst e
  exact⟨y,by rw[Array.getElem?_setIfInBounds_self_of_lt (by rw[h.1];exact hj)],h0,h1⟩
 ·rw[Array.getElem?_setIfInBounds_ne (by omega)]
  exact h.2 j hj
theorem CpuC.one{C:Array Value}(h:CpuC C):yZ C:=by
 intro v hv;obtain⟨j,hj,e⟩:=List.getElem_of_mem hv;have hj':j<C.size:=by simpa using hj
 obtain⟨x,hx,_⟩:=h.2 j (by rw[<-h.1];exact hj');rw[Array.getElem?_eq_getElem hj'] at hx;have e2:C[j]=v:=by simpa using e
 rw[<-e2,Option.some.inj hx];rfl
def CpuB(w:World)(e:Ending)(w':World):Prop:= ∃(C:Array Value) (b:Bool),e= .returned (.tuple #[.agg C,.bool b])/\CpuC C/\Below w.heap.size w w'
def U32(v:Value):Prop:= ∃x:Int,v= .int .u32 x/\0<=x/\x<4294967296
theorem u32_bits(op:BinOp)(x y:Int):U32 (.int .u32 (bits op .u32 x y)):=⟨_,rfl,bits_u32 op x y⟩
theorem u32_div{x y:Int}(h0:0<=x)(h1:x<4294967296)(h2:0<=y):U32 (.int .u32 (x/y)):=⟨_,rfl,Int.ediv_nonneg h0 h2,Int.lt_of_le_of_lt (Int.ediv_le_self _ h0) h1⟩
theorem u32_in{x:Int}(h0:0<=x)(h1:x<4294967296):U32 (.int .u32 x):=⟨_,rfl,h0,h1⟩
theorem u32_mod(x:Int):U32 (.int .u32 (x% 4294967296)):=⟨_,rfl,by omega,by omega⟩
theorem u32_pow(k:Nat):(0:Int)<=2^k:=by exact_mod_cast Nat.zero_le _
def zero9:Array Value:= #[.int .u32 0,.int .u32 0,.int .u32 0,.int .u32 0,.int .u32 0,.int .u32 0,.int .u32 0,.int .u32 0,.int .u32 0]
def DoesW(w:World)(C I:Array Value)(W:World):Prop:=Blk W w.heap.size C 125/\Blk W (w.heap.size+1) I 230/\Blk W (w.heap.size+1+1) zero9 125/\Below w.heap.size w W
theorem doesW_new(w:World)(C I:Array Value):DoesW w C I (((w.alloc (.cells C 125)).alloc (.cells I 230)).alloc (.cells zero9 125)):=by
 refine⟨((Zj w C _).alloc _).alloc _,Blk.alloc ?_ _,?_,((xw _ _).alloc (by simp) _).alloc (by simp;omega) _⟩
 ·simpa using Zj (w.alloc (.cells C 125)) I 230
 ·simpa using Zj ((w.alloc (.cells C 125)).alloc (.cells I 230)) zero9 125
theorem DoesW.step{w W W':World}{C I:Array Value}(h:DoesW w C I W)(hb:Below W.heap.size W W'):DoesW w C I W':=⟨h.1.below hb,h.2.1.below hb,h.2.2.1.below hb,h.2.2.2.trans (hb.mono h.2.2.2.size)⟩
theorem DoesW.setC{w W:World}{C I:Array Value}(h:DoesW w C I W)(j:Nat)(v:Value):DoesW w (C.setIfInBounds j v) I (W.setCell ⟨w.heap.size,j,none⟩ v):=
 ⟨h.1.set j v,h.2.1.other (by omega) j v,h.2.2.1.other (by omega) j v,h.2.2.2.setCell (Nat.le_refl _) v⟩
set_option maxRecDepth 100000 in
theorem does_any(C:Array Value)(op a b i:Int)(w:World)(hT:Tab w)(hC:CpuC C)(hm:mayB op a b i=true)(hop:(14<=op/\op<=17\/op=24)=False):
  Calls Tryz.prog 124 #[.agg C,.agg #[.int .i64 op,.int .i64 a,.int .i64 b,.int .i64 i]] w (CpuB w):=by
 have hr:=mayB_in hm;obtain⟨h1,h2,h3,h4,h5,h6,h7,h8⟩:=hr;obtain⟨x,hx,hx0,hx1⟩:=hC.2 a.toNat (by omega);obtain⟨y,hy,hy0,hy1⟩:=hC.2 b.toNat (by omega);obtain⟨z,hz,hz0,hz1⟩:=hC.2 8 (by omega);have HM:=Lib.hid hm;have HT:=Lib.hid hT;have HC:=Lib.hid hC;clear hm hT hC;go_enter Tryz.func124,Tryz.ntmps124;go_wp2_with fail;refine(may_true (HT.out.below (((xw _ _).alloc (by simp) _).alloc (by simp;omega) _)) HM.out).mono ?_;rintro e w1 ⟨rfl,hb⟩;have k:=zj ((doesW_new w C #[.int .i64 op,.int .i64 a,.int .i64 b,.int .i64 i]).step hb);clear hb;obtain⟨c0,f0⟩:=k.out.1.rules;obtain⟨c1,f1⟩:=k.out.2.1.rules;have l0:w.heap.size<w1.heap.size:=k.out.1.lt;have l1:w.heap.size+1<w1.heap.size:=k.out.2.1.lt
 go_upto_region 3 with fail
 go_cut [6,7,8] from 16 to 28 (fun s6 s7 s8 wx=>s6= .int .u32 x/\s7= .int .u32 y/\s8= .int .u32 (i% 4294967296)/\Hid (DoesW w C #[.int .i64 op,.int .i64 a,.int .i64 b,.int .i64 i] wx))
 case first=>
  go_quiet (fail);go_wp2_with fail
  go_meet
  exact⟨rfl,rfl,rfl,k.out.step (below_drewN _ _)⟩
 case rest=>
 obtain⟨rfl,rfl,rfl,k2⟩:=hcut;clear k c0 f0 c1 f1 l0 l1;obtain⟨c0,f0⟩:=k2.out.1.rules;obtain⟨c1,f1⟩:=k2.out.2.1.rules;have l0:=k2.out.1.lt;have l1:=k2.out.2.1.lt
 go_upto_region 4 with fail
 go_cut [9,10] from 29 to 36 (fun s9 s10 wy=>U32 s9/\U32 s10/\Hid (DoesW w C #[.int .i64 op,.int .i64 a,.int .i64 b,.int .i64 i] wy))
 case first=>
  go_quiet (fail);go_wp2_with fail
  go_meet
  exact⟨⟨_,rfl,by omega,by omega⟩,⟨_,rfl,by omega,by omega⟩,k2.out.step (below_drewN _ _)⟩
 case rest=>
 obtain⟨⟨s9,rfl,h90,h91⟩,⟨s10,rfl,h100,h101⟩,k3⟩:=hcut;clear k2 c0 f0 c1 f1 l0 l1;obtain⟨c0,f0⟩:=k3.out.1.rules;obtain⟨c1,f1⟩:=k3.out.2.1.rules
 go_upto_block 0 with fail
 go_cut [6,7,8,11] from 40 to 148 (fun s6 s7 s8 s11 wy=>U32 s6/\U32 s7/\U32 s8/\U32 s11/\Hid (DoesW w C #[.int .i64 op,.int .i64 a,.int .i64 b,.int .i64 i] wy))
 case first=>
  refine zy (fun Q0 hq0=> ?_);refine wp_seq_k (fun K18 hk18=> ?_);refine zy (fun Q18 hq18=> ?_);refine wp_seq_k (fun K17 hk17=> ?_);refine zy (fun Q17 hq17=> ?_);refine wp_seq_k (fun K16 hk16=> ?_);refine zy (fun Q16 hq16=> ?_);refine wp_seq_k (fun K15 hk15=> ?_);refine zy (fun Q15 hq15=> ?_);refine wp_seq_k (fun K14 hk14=> ?_);refine zy (fun Q14 hq14=> ?_);refine wp_seq_k (fun K13 hk13=> ?_);refine zy (fun Q13 hq13=> ?_);refine wp_seq_k (fun K12 hk12=> ?_);refine zy (fun Q12 hq12=> ?_);refine wp_seq_k (fun K11 hk11=> ?_);refine zy (fun Q11 hq11=> ?_);refine wp_seq_k (fun K10 hk10=> ?_);refine zy (fun Q10 hq10=> ?_);refine wp_seq_k (fun K9 hk9=> ?_);refine zy (fun Q9 hq9=> ?_);refine wp_seq_k (fun K8 hk8=> ?_);refine zy (fun Q8 hq8=> ?_);refine wp_seq_k (fun K7 hk7=> ?_);refine zy (fun Q7 hq7=> ?_);refine wp_seq_k (fun K6 hk6=> ?_);refine zy (fun Q6 hq6=> ?_);refine wp_seq_k (fun K5 hk5=> ?_);refine zy (fun Q5 hq5=> ?_);refine wp_seq_k (fun K4 hk4=> ?_);refine zy (fun Q4 hq4=> ?_);refine wp_seq_k (fun K3 hk3=> ?_);refine zy (fun Q3 hq3=> ?_);refine wp_seq_k (fun K2 hk2=> ?_);refine zy (fun Q2 hq2=> ?_);refine wp_seq_k (fun K1 hk1=> ?_);refine zy (fun Q1 hq1=> ?_);have hops:op=1\/op=2\/op=3\/op=4\/op=5\/op=6\/op=7\/op=8\/op=9\/op=10\/op=11\/op=12\/op=13\/op=18\/op=19\/op=20\/op=21\/op=22\/op=23:=by
   have: ¬(14<=op/\op<=17\/op=24):=fun h=>by rw[hop] at h;exact h
   omega
  clear hop;rcases hops with rfl|rfl|rfl|rfl|rfl|rfl|rfl|rfl|rfl|rfl|rfl|rfl|rfl|rfl|rfl|rfl|rfl|rfl|rfl
  case inr.inr.inr.inr.inr.inr.inl=>
   by_cases hy2:y=0
   ·subst hy2
    go_wp2_with fail
    go_meet
    exact⟨u32_bits _ _ _,⟨_,rfl,by omega,by omega⟩,⟨_,rfl,by omega,by omega⟩,⟨_,rfl,by omega,by omega⟩,k3⟩
   ·have hy3:(y==0)=false:=by rw[beq_eq_false_iff_ne];exact hy2
    have hy4:0<y:=by omega
    go_wp2_with fail
    go_meet
    exact⟨u32_div hx0 hx1 hy0,⟨_,rfl,by omega,by omega⟩,⟨_,rfl,by omega,by omega⟩,⟨_,rfl,by omega,by omega⟩,k3⟩
  all_goals go_wp2_with fail
  all_goals go_meet
  all_goals refine⟨?_,?_,?_,?_,k3⟩
  all_goals first
   |with_reducible exact u32_bits _ _ _
   |with_reducible exact u32_mod _
   |with_reducible exact u32_in hx0 hx1
   |with_reducible exact u32_in hy0 hy1
   |with_reducible exact u32_in h90 h91
   |with_reducible exact u32_in h100 h101
   |with_reducible exact u32_div hx0 hx1 hy0
   |with_reducible exact u32_div hx0 hx1 (u32_pow _)
   |exact⟨0,rfl,by omega,by omega⟩
   |exact(0:Nat)
 case rest=>
 obtain⟨⟨s6,rfl,h60,h61⟩,⟨s7,rfl,h70,h71⟩,⟨s8,rfl,h80,h81⟩,⟨s11,rfl,h110,h111⟩,k4⟩:=hcut;clear k3 c0 f0 c1 f1;obtain⟨c0,f0⟩:=k4.out.1.rules;obtain⟨c1,f1⟩:=k4.out.2.1.rules;have l0:=k4.out.1.lt;have l1:=k4.out.2.1.lt;have HO:Hid ((14<=op/\op<=17\/op=24)=False):=hop;clear hop;by_cases h18:op=18
 ·subst h18
  go_upto_region 50 with fail
  have k5:=zj (k4.out.setC 8 (.int .u32 s11));have HC2:=zj (HC.out.set 8 s11 h110 h111);clear c0 f0 c1 f1 l0 l1 k4;generalize wc.setCell ⟨w.heap.size,8,none⟩ (.int .u32 s11)=W at k5⊢;generalize C.setIfInBounds 8 (.int .u32 s11)=D at k5 HC2;have hs:=HC2.out.1;have h1:=HC2.out.one;have hcl: ∀j v,D[j]? =some v->W.cell? ⟨w.heap.size,0+j,none⟩=some v:=fun j v h=>by rw[Nat.zero_add,k5.out.1.rules.1];exact h
  have hld:=qJ (P:=Tryz.prog) 125 (w.heap.size+1+1) 9 D 125 (Tryz.isAgg125 _) (Tryz.sizeOf125 _) hs (Zq k5.out.2.2.1 D);go_wp2_with(first|(refine zZ rfl (.tmp 2) 125 rfl w.heap.size 0 9 rfl D (Tryz.isAgg125 _) (Tryz.sizeOf125 _) hs hcl ?_)|(refine gY rfl (.tmp 4) (.tmp 160) 125 rfl (w.heap.size+1+1) 0 rfl D rfl zero9 125 k5.out.2.2.1 (by rw[hs];exact Tryz.sizeOf125 _) (by rw[hs];decide) h1 ?_));refine bodyPost_ret (yh rfl _ rfl rfl (qJ 125 (w.heap.size+1+1) 9 D 125 (Tryz.isAgg125 _) (Tryz.sizeOf125 _) hs ?_)) rfl ⟨D,true,rfl,HC2.out,vG k5.out.2.2.2 (by omega) _⟩;have e:patch zero9 0 D=D:=xU zero9 D (by rw[hs];rfl);have q:=Zq k5.out.2.2.1 (patch zero9 0 D);rw[e] at q⊢;exact q
 ·have h18:(op==18)=false:=by rw[beq_eq_false_iff_ne];exact h18
  go_upto_region 50 with fail
  have k5:=zj ((k4.out.setC a.toNat (.int .u32 s6)).setC 8 (.int .u32 s11));have HC2:=zj ((HC.out.set a.toNat s6 h60 h61).set 8 s11 h110 h111);clear c0 f0 c1 f1 l0 l1 k4;generalize (wc.setCell ⟨w.heap.size,a.toNat,none⟩ (.int .u32 s6)).setCell ⟨w.heap.size,8,none⟩ (.int .u32 s11)=W at k5⊢;generalize (C.setIfInBounds a.toNat (.int .u32 s6)).setIfInBounds 8 (.int .u32 s11)=D at k5 HC2;have hs:=HC2.out.1;have h1:=HC2.out.one;have hcl: ∀j v,D[j]? =some v->W.cell? ⟨w.heap.size,0+j,none⟩=some v:=fun j v h=>by rw[Nat.zero_add,k5.out.1.rules.1];exact h
  have hld:=qJ (P:=Tryz.prog) 125 (w.heap.size+1+1) 9 D 125 (Tryz.isAgg125 _) (Tryz.sizeOf125 _) hs (Zq k5.out.2.2.1 D);go_wp2_with(first|(refine zZ rfl (.tmp 2) 125 rfl w.heap.size 0 9 rfl D (Tryz.isAgg125 _) (Tryz.sizeOf125 _) hs hcl ?_)|(refine gY rfl (.tmp 4) (.tmp 160) 125 rfl (w.heap.size+1+1) 0 rfl D rfl zero9 125 k5.out.2.2.1 (by rw[hs];exact Tryz.sizeOf125 _) (by rw[hs];decide) h1 ?_));refine bodyPost_ret (yh rfl _ rfl rfl (qJ 125 (w.heap.size+1+1) 9 D 125 (Tryz.isAgg125 _) (Tryz.sizeOf125 _) hs ?_)) rfl ⟨D,true,rfl,HC2.out,vG k5.out.2.2.2 (by omega) _⟩;have e:patch zero9 0 D=D:=xU zero9 D (by rw[hs];rfl);have q:=Zq k5.out.2.2.1 (patch zero9 0 D);rw[e] at q⊢;exact q
end
section
open Go.RowKit Go.Proofs.YtaccidkgnkmagaaGreatDoor.Isa
theorem CpuC.ty{C:Array Value}(h:CpuC C):Ty vZ C:=by
 refine Ty.of (by rw[h.1];rfl) (fun j k v hk hv=> ?_);have hj:j<9:=(List.getElem?_eq_some_iff.1 hk).1;obtain⟨x,hx,h0,h1⟩:=h.2 j hj;rw[hx] at hv;injection hv with hv;subst hv;have e:k= .u32:=by
  match j,hj,hk with
  |0,_,hk=>exact(Option.some.inj hk).symm
  |1,_,hk=>exact(Option.some.inj hk).symm
  |2,_,hk=>exact(Option.some.inj hk).symm
  |3,_,hk=>exact(Option.some.inj hk).symm
  |4,_,hk=>exact(Option.some.inj hk).symm
  |5,_,hk=>exact(Option.some.inj hk).symm
  |6,_,hk=>exact(Option.some.inj hk).symm
  |7,_,hk=>exact(Option.some.inj hk).symm
  |8,_,hk=>exact(Option.some.inj hk).symm
 subst e;exact⟨x,rfl,h0,h1⟩
theorem cpuK{j:Nat}(hj:j<9):vZ[j]? =some .u32:=by
 match j,hj with
 |0,_=>rfl
 |1,_=>rfl
 |2,_=>rfl
 |3,_=>rfl
 |4,_=>rfl
 |5,_=>rfl
 |6,_=>rfl
 |7,_=>rfl
 |8,_=>rfl
theorem cpuC_of{C:Array Value}(h:Ty vZ C):CpuC C:=⟨h.size,fun j hj=>h.u32 j (cpuK hj)⟩
theorem gf{C:Array Value}(h:Ty vZ C){j:Nat}(hj:j<9){y:Int}(h0:0<=y)(h1:y<4294967296):Ty vZ (C.setIfInBounds j (.int .u32 y)):=h.set (cpuK hj) (ju h0 h1)
theorem qt(x:Int):0<=IntKind.u32.wrap x/\IntKind.u32.wrap x<4294967296:=by
 simp only[IntKind.wrap,IntKind.bits,IntKind.signed];constructor<;>simp<;>omega
def StepR(n:Nat)(w:World)(e:Ending)(w':World):Prop:=
 ∃(C:Array Value) (m:ByteArray) (t:Int),e= .returned (.tuple #[.agg C,.string m,.int .i64 t])/\Ty vZ C/\m.size=n/\(t=0\/t=1\/t=2\/t=3)/\Below w.heap.size w w'
theorem cstep_any(C:Array Value)(m:ByteArray)(w:World)(hT:Tab w)(hC:Ty vZ C)(hm:m.size<=1000000):
  Calls Tryz.prog 92 #[.agg C,.string m] w (StepR m.size w):=by
 have k:Hid (St (fun _=>False) (fun _=>False) w [] (fun _ _=>True) (fun _=>False) w):=St.begin (fun _ h=>h.elim) trivial xZ;have HC:=Lib.hid hC;have HT:=Lib.hid hT;have hs:C.size=9:=hC.size;have ho:=hC.one;have hmm:m.size<=maxLen:=by unfold maxLen;omega
 obtain⟨pc,epc,pc0,pc1⟩:=hC.u32 8 rfl;rw[<-Array.getElem?_toList] at epc;clear hC hT;go_enter Tryz.func92,Tryz.ntmps92;go_wp2_with(first|((with_reducible refine zz ?_);refine ld1 k rfl rfl .a1 (by with_reducible assumption) ?_)|((with_reducible refine zI ?_);refine bxa k rfl ?_;clear k;intro b X W k)|((with_reducible refine zf ?_);refine ala k Tryz.zeroValue125 ?_;clear k;intro b125 X W k));refine(load_any m pc _ hmm pc0 pc1).mono ?_;rintro e W1 ⟨v,x,rfl,hv0,hv1,hx,rfl⟩;rcases hx with rfl|rfl
 ·go_upto_region 4 with fail
  by_cases hw:isW v=true
  ·have hr:=mayB_in (show mayB (tOp v) (tA v) (tB v) (tI v)=true from hw)
   have HW:Hid (mayB (tOp v) (tA v) (tB v) (tI v)=true):=hw;obtain⟨h1,h2,h3,h4,h5,h6,h7,h8⟩:=hr;go_wp2_with fail;refine(take_ok v _ (HT.out.below k.out.end) hv0 hv1 hw).mono ?_;rintro e W1 ⟨rfl,hb⟩;replace k:=zj (k.out.call hb);clear hb hw;generalize tOp v=op at*;generalize tA v=a at*;generalize tB v=b at*;generalize tI v=i at*
   go_upto_region 7 with(first|((with_reducible refine zx ?_);refine soa k rfl rfl rfl .a0 (by rfl) (by rfl) (zm rfl) ?_;clear k;intro W k)|((with_reducible refine zf ?_);refine ala k Tryz.zeroValue230 ?_;clear k;intro b230 X W k))
   replace k:Hid (St _ _ _ [(b230,#[.int .i64 op,.int .i64 a,.int .i64 b,.int .i64 i],_),(b125,_,_),(_,C,_)] _ _ _):=k;have b8:b<8:=by omega
   have a8:a<8:=by omega
   have b0:0<=b:=by omega
   have a0:0<=a:=by omega
   obtain⟨va,eva,va0,va1⟩:=HC.out.u32 a.toNat (cpuK (by omega));obtain⟨vb,evb,vb0,vb1⟩:=HC.out.u32 b.toNat (cpuK (by omega));rw[<-Array.getElem?_toList] at eva evb;have HPer:=Lib.hid k.out.per;refine zt k 10 10 (by kernel_rfl) rfl ?_;clear k;intro W k;refine zq [(0,some 33,[]),(1,some 34,[]),(2,some 35,[]),(3,some 36,[]),(4,some 37,[]),(5,some 38,[]),(6,some 39,[]),(7,some 40,[]),(8,some 41,[]),(9,some 10,[])] [?v1_0,?v1_1,?v1_2,?v1_3,?v1_4,?v1_5,?v1_6,?v1_7,?v1_8,?v1_9] 0 (by kernel_rfl) ⟨_,k.out⟩ ?l1 ?h1;case l1=>
    intro w' hSw;iterate 10
     refine lkw rfl rfl (by rfl) ?_ ?_
     ·first|((with_reducible refine yw ?_);first|exact hSw.l1 rfl rfl (by repeat constructor) (by first|with_reducible assumption|rfl))|(go_simp<;>with_reducible rfl)
     try simp only[Act.put,tS,t0,t1]
    trivial
   simp only[zw,zk,Act.put,tS,t0,t1];refine zv (by kernel_rfl) ?_ _;clear HPer
   go_upto_region 8 with fail
   have HPer:=Lib.hid k.out.per;refine zt k 8 8 (by kernel_rfl) rfl ?_;clear k;intro W k;refine zq [(0,some 42,[]),(1,some 43,[]),(2,some 44,[]),(3,some 45,[]),(4,some 46,[]),(5,some 47,[]),(6,some 11,[]),(7,some 12,[])] [?v2_0,?v2_1,?v2_2,?v2_3,?v2_4,?v2_5,?v2_6,?v2_7] 0 (by kernel_rfl) ⟨_,k.out⟩ ?l2 ?h2;case l2=>
    intro w' hSw;iterate 8
     refine lkw rfl rfl (by rfl) ?_ ?_
     ·first|((with_reducible refine yw ?_);first|exact hSw.l1 rfl rfl (by repeat constructor) (by first|with_reducible assumption|rfl))|(go_simp<;>with_reducible rfl)
     try simp only[Act.put,tS,t0,t1]
    trivial
   simp only[zw,zk,Act.put,tS,t0,t1];refine zv (by kernel_rfl) ?_ _;clear HPer;replace k:Hid (St _ _ _ [(b230,#[.int .i64 op,.int .i64 a,.int .i64 b,.int .i64 i],_),(b125,_,_),(_,C,_)] _ _ _):=k;obtain⟨at0,at1⟩:=qt (vb+IntKind.u32.wrap i);generalize IntKind.u32.wrap (vb+IntKind.u32.wrap i)=q at at0 at1;have fa:Nat.blt a.toNat C.size=true:=by rw[Nat.blt_eq,hs];omega
   have f8:Nat.blt 8 C.size=true:=by rw[hs];rfl
   by_cases o14:op=14
   ·subst o14
    go_wp2_with((with_reducible refine zz ?_);refine ld1 k rfl rfl .a0 (by rfl) ?_);refine(load_any m q _ hmm at0 at1).mono ?_;rintro e W1 ⟨v2,x,rfl,hv20,hv21,hx,rfl⟩;rcases hx with rfl|rfl
    ·go_upto_region 26 with(first|((with_reducible refine zz ?_);refine ld1 k rfl rfl .a0 (by rfl) ?_)|((with_reducible refine zx ?_);refine so1 k rfl rfl rfl (by rfl) .a2 (by with_reducible assumption) rfl ?_;clear k;intro W k))
     replace k:Hid (St _ _ _ [(b230,_,_),(b125,_,_),(_,C.setIfInBounds a.toNat (.int .u32 v2),_)] _ _ _):=k;have HC1:Hid (Ty vZ (C.setIfInBounds a.toNat (.int .u32 v2))):=gf HC.out (by omega) hv20 hv21;generalize C.setIfInBounds a.toNat (.int .u32 v2)=C1 at k HC1;have hs1:C1.size=9:=HC1.out.size;have ho1:=HC1.out.one;obtain⟨p1,ep1,p10,p11⟩:=HC1.out.u32 8 rfl;rw[<-Array.getElem?_toList] at ep1;have f1:Nat.blt 8 C1.size=true:=by rw[hs1];rfl
     go_upto_region 27 with(first|((with_reducible refine zz ?_);refine ld1 k rfl rfl .a2 (by with_reducible assumption) ?_)|((with_reducible refine zx ?_);refine so1 k rfl rfl rfl (by rfl) .a2 (by with_reducible assumption) rfl ?_;clear k;intro W k))
     replace k:Hid (St _ _ _ [(b230,_,_),(b125,_,_),(_,C1.setIfInBounds 8 (.int .u32 (IntKind.u32.wrap (p1+4))),_)] _ _ _):=k;have HC2:Hid (Ty vZ (C1.setIfInBounds 8 (.int .u32 (IntKind.u32.wrap (p1+4))))):=gf HC1.out (by omega) (qt _).1 (qt _).2;generalize C1.setIfInBounds 8 (.int .u32 (IntKind.u32.wrap (p1+4)))=C2 at k HC2;have hs2:C2.size=9:=HC2.out.size;have ho2:=HC2.out.one;obtain⟨p2,ep2,p20,p21⟩:=HC2.out.u32 8 rfl;rw[<-Array.getElem?_toList] at ep2;have f2:Nat.blt 8 C2.size=true:=by rw[hs2];rfl
     go_wp2_with(first|((with_reducible refine zz ?_);refine lda k rfl rfl .a2 (by with_reducible assumption) ?_)|((with_reducible refine zx ?_);refine soa k rfl rfl rfl .a1 (by with_reducible assumption) (by rfl) (by assumption) ?_;clear k;intro W k));exact bodyPost_ret (yg rfl _ rfl rfl rfl (zY k.out 1 rfl 125 (Tryz.isAgg125 _) (Tryz.sizeOf125 _) hs2)) rfl ⟨_,m,0,rfl,HC2.out,rfl,by decide,k.out.end⟩
    ·go_wp2_with(first|((with_reducible refine zz ?_);refine lda k rfl rfl .a2 (by with_reducible assumption) ?_)|((with_reducible refine zx ?_);refine soa k rfl rfl rfl .a1 (by with_reducible assumption) (by rfl) (by assumption) ?_;clear k;intro W k))
     exact bodyPost_ret (yg rfl _ rfl rfl rfl (zY k.out 1 rfl 125 (Tryz.isAgg125 _) (Tryz.sizeOf125 _) hs)) rfl ⟨C,m,2,rfl,HC.out,rfl,by decide,k.out.end⟩
   ·by_cases o16:op=16
    ·subst o16
     go_wp2_with((with_reducible refine zz ?_);refine ld1 k rfl rfl .a0 (by rfl) ?_);refine(byte_any m q _ hmm at0 at1).mono ?_;rintro e W1 ⟨v2,x,rfl,hv20,hv21,hx,rfl⟩;rcases hx with rfl|rfl
     ·go_upto_region 26 with(first|((with_reducible refine zz ?_);refine ld1 k rfl rfl .a0 (by rfl) ?_)|((with_reducible refine zx ?_);refine so1 k rfl rfl rfl (by rfl) .a2 (by with_reducible assumption) rfl ?_;clear k;intro W k))
      replace k:Hid (St _ _ _ [(b230,_,_),(b125,_,_),(_,C.setIfInBounds a.toNat (.int .u32 v2),_)] _ _ _):=k;have HC1:Hid (Ty vZ (C.setIfInBounds a.toNat (.int .u32 v2))):=gf HC.out (by omega) hv20 hv21;generalize C.setIfInBounds a.toNat (.int .u32 v2)=C1 at k HC1;have hs1:C1.size=9:=HC1.out.size;have ho1:=HC1.out.one;obtain⟨p1,ep1,p10,p11⟩:=HC1.out.u32 8 rfl;rw[<-Array.getElem?_toList] at ep1;have f1:Nat.blt 8 C1.size=true:=by rw[hs1];rfl
      go_upto_region 27 with(first|((with_reducible refine zz ?_);refine ld1 k rfl rfl .a2 (by with_reducible assumption) ?_)|((with_reducible refine zx ?_);refine so1 k rfl rfl rfl (by rfl) .a2 (by with_reducible assumption) rfl ?_;clear k;intro W k))
      replace k:Hid (St _ _ _ [(b230,_,_),(b125,_,_),(_,C1.setIfInBounds 8 (.int .u32 (IntKind.u32.wrap (p1+4))),_)] _ _ _):=k;have HC2:Hid (Ty vZ (C1.setIfInBounds 8 (.int .u32 (IntKind.u32.wrap (p1+4))))):=gf HC1.out (by omega) (qt _).1 (qt _).2;generalize C1.setIfInBounds 8 (.int .u32 (IntKind.u32.wrap (p1+4)))=C2 at k HC2;have hs2:C2.size=9:=HC2.out.size;have ho2:=HC2.out.one;obtain⟨p2,ep2,p20,p21⟩:=HC2.out.u32 8 rfl;rw[<-Array.getElem?_toList] at ep2;have f2:Nat.blt 8 C2.size=true:=by rw[hs2];rfl
      go_wp2_with(first|((with_reducible refine zz ?_);refine lda k rfl rfl .a2 (by with_reducible assumption) ?_)|((with_reducible refine zx ?_);refine soa k rfl rfl rfl .a1 (by with_reducible assumption) (by rfl) (by assumption) ?_;clear k;intro W k));exact bodyPost_ret (yg rfl _ rfl rfl rfl (zY k.out 1 rfl 125 (Tryz.isAgg125 _) (Tryz.sizeOf125 _) hs2)) rfl ⟨_,m,0,rfl,HC2.out,rfl,by decide,k.out.end⟩
     ·go_wp2_with(first|((with_reducible refine zz ?_);refine lda k rfl rfl .a2 (by with_reducible assumption) ?_)|((with_reducible refine zx ?_);refine soa k rfl rfl rfl .a1 (by with_reducible assumption) (by rfl) (by assumption) ?_;clear k;intro W k))
      exact bodyPost_ret (yg rfl _ rfl rfl rfl (zY k.out 1 rfl 125 (Tryz.isAgg125 _) (Tryz.sizeOf125 _) hs)) rfl ⟨C,m,2,rfl,HC.out,rfl,by decide,k.out.end⟩
    ·by_cases o15:op=15
     ·subst o15
      go_wp2_with((with_reducible refine zz ?_);refine ld1 k rfl rfl .a0 (by rfl) ?_);refine(store_any m q va _ hmm at0 at1 va0 va1).mono ?_;rintro e W1 ⟨m2,x,rfl,hm2,hx,hb⟩;replace k:=zj (k.out.call hb);clear hb;rcases hx with rfl|rfl
      ·go_upto_region 26 with(first|((with_reducible refine zz ?_);refine ld1 k rfl rfl .a0 (by rfl) ?_)|((with_reducible refine zx ?_);refine so1 k rfl rfl rfl (by rfl) .a2 (by with_reducible assumption) rfl ?_;clear k;intro W k))
       replace k:Hid (St _ _ _ [(b230,_,_),(b125,_,_),(_,C.setIfInBounds a.toNat (.int .u32 va),_)] _ _ _):=k;have HC1:Hid (Ty vZ (C.setIfInBounds a.toNat (.int .u32 va))):=gf HC.out (by omega) va0 va1;generalize C.setIfInBounds a.toNat (.int .u32 va)=C1 at k HC1;have hs1:C1.size=9:=HC1.out.size;have ho1:=HC1.out.one;obtain⟨p1,ep1,p10,p11⟩:=HC1.out.u32 8 rfl;rw[<-Array.getElem?_toList] at ep1;have f1:Nat.blt 8 C1.size=true:=by rw[hs1];rfl
       go_upto_region 27 with(first|((with_reducible refine zz ?_);refine ld1 k rfl rfl .a2 (by with_reducible assumption) ?_)|((with_reducible refine zx ?_);refine so1 k rfl rfl rfl (by rfl) .a2 (by with_reducible assumption) rfl ?_;clear k;intro W k))
       replace k:Hid (St _ _ _ [(b230,_,_),(b125,_,_),(_,C1.setIfInBounds 8 (.int .u32 (IntKind.u32.wrap (p1+4))),_)] _ _ _):=k;have HC2:Hid (Ty vZ (C1.setIfInBounds 8 (.int .u32 (IntKind.u32.wrap (p1+4))))):=gf HC1.out (by omega) (qt _).1 (qt _).2;generalize C1.setIfInBounds 8 (.int .u32 (IntKind.u32.wrap (p1+4)))=C2 at k HC2;have hs2:C2.size=9:=HC2.out.size;have ho2:=HC2.out.one;obtain⟨p2,ep2,p20,p21⟩:=HC2.out.u32 8 rfl;rw[<-Array.getElem?_toList] at ep2;have f2:Nat.blt 8 C2.size=true:=by rw[hs2];rfl
       go_wp2_with(first|((with_reducible refine zz ?_);refine lda k rfl rfl .a2 (by with_reducible assumption) ?_)|((with_reducible refine zx ?_);refine soa k rfl rfl rfl .a1 (by with_reducible assumption) (by rfl) (by assumption) ?_;clear k;intro W k));exact bodyPost_ret (yg rfl _ rfl rfl rfl (zY k.out 1 rfl 125 (Tryz.isAgg125 _) (Tryz.sizeOf125 _) hs2)) rfl ⟨_,m2,0,rfl,HC2.out,hm2,by decide,k.out.end⟩
      ·go_wp2_with(first|((with_reducible refine zz ?_);refine lda k rfl rfl .a2 (by with_reducible assumption) ?_)|((with_reducible refine zx ?_);refine soa k rfl rfl rfl .a1 (by with_reducible assumption) (by rfl) (by assumption) ?_;clear k;intro W k))
       exact bodyPost_ret (yg rfl _ rfl rfl rfl (zY k.out 1 rfl 125 (Tryz.isAgg125 _) (Tryz.sizeOf125 _) hs)) rfl ⟨C,m,2,rfl,HC.out,rfl,by decide,k.out.end⟩
     ·by_cases o17:op=17
      ·subst o17
       go_wp2_with((with_reducible refine zz ?_);refine ld1 k rfl rfl .a0 (by rfl) ?_);refine(sput_any m q va _ hmm at0 at1 va0 va1).mono ?_;rintro e W1 ⟨m2,x,rfl,hm2,hx,hb⟩;replace k:=zj (k.out.call hb);clear hb;rcases hx with rfl|rfl
       ·go_upto_region 26 with(first|((with_reducible refine zz ?_);refine ld1 k rfl rfl .a0 (by rfl) ?_)|((with_reducible refine zx ?_);refine so1 k rfl rfl rfl (by rfl) .a2 (by with_reducible assumption) rfl ?_;clear k;intro W k))
        replace k:Hid (St _ _ _ [(b230,_,_),(b125,_,_),(_,C.setIfInBounds a.toNat (.int .u32 va),_)] _ _ _):=k;have HC1:Hid (Ty vZ (C.setIfInBounds a.toNat (.int .u32 va))):=gf HC.out (by omega) va0 va1;generalize C.setIfInBounds a.toNat (.int .u32 va)=C1 at k HC1;have hs1:C1.size=9:=HC1.out.size;have ho1:=HC1.out.one;obtain⟨p1,ep1,p10,p11⟩:=HC1.out.u32 8 rfl;rw[<-Array.getElem?_toList] at ep1;have f1:Nat.blt 8 C1.size=true:=by rw[hs1];rfl
        go_upto_region 27 with(first|((with_reducible refine zz ?_);refine ld1 k rfl rfl .a2 (by with_reducible assumption) ?_)|((with_reducible refine zx ?_);refine so1 k rfl rfl rfl (by rfl) .a2 (by with_reducible assumption) rfl ?_;clear k;intro W k))
        replace k:Hid (St _ _ _ [(b230,_,_),(b125,_,_),(_,C1.setIfInBounds 8 (.int .u32 (IntKind.u32.wrap (p1+4))),_)] _ _ _):=k;have HC2:Hid (Ty vZ (C1.setIfInBounds 8 (.int .u32 (IntKind.u32.wrap (p1+4))))):=gf HC1.out (by omega) (qt _).1 (qt _).2;generalize C1.setIfInBounds 8 (.int .u32 (IntKind.u32.wrap (p1+4)))=C2 at k HC2;have hs2:C2.size=9:=HC2.out.size;have ho2:=HC2.out.one;obtain⟨p2,ep2,p20,p21⟩:=HC2.out.u32 8 rfl;rw[<-Array.getElem?_toList] at ep2;have f2:Nat.blt 8 C2.size=true:=by rw[hs2];rfl
        go_wp2_with(first|((with_reducible refine zz ?_);refine lda k rfl rfl .a2 (by with_reducible assumption) ?_)|((with_reducible refine zx ?_);refine soa k rfl rfl rfl .a1 (by with_reducible assumption) (by rfl) (by assumption) ?_;clear k;intro W k));exact bodyPost_ret (yg rfl _ rfl rfl rfl (zY k.out 1 rfl 125 (Tryz.isAgg125 _) (Tryz.sizeOf125 _) hs2)) rfl ⟨_,m2,0,rfl,HC2.out,hm2,by decide,k.out.end⟩
       ·go_wp2_with(first|((with_reducible refine zz ?_);refine lda k rfl rfl .a2 (by with_reducible assumption) ?_)|((with_reducible refine zx ?_);refine soa k rfl rfl rfl .a1 (by with_reducible assumption) (by rfl) (by assumption) ?_;clear k;intro W k))
        exact bodyPost_ret (yg rfl _ rfl rfl rfl (zY k.out 1 rfl 125 (Tryz.isAgg125 _) (Tryz.sizeOf125 _) hs)) rfl ⟨C,m,2,rfl,HC.out,rfl,by decide,k.out.end⟩
      ·by_cases o24:op=24
       ·subst o24
        go_upto_region 22 with(first|((with_reducible refine zz ?_);refine ld1 k rfl rfl (by repeat constructor) (by first|with_reducible assumption|rfl) ?_)|((with_reducible refine zx ?_);refine so1 k rfl rfl rfl (by rfl) .a2 (by with_reducible assumption) rfl ?_;clear k;intro W k))
        replace k:Hid (St _ _ _ [(b230,_,_),(b125,_,_),(_,C.setIfInBounds 8 (.int .u32 (IntKind.u32.wrap (pc+4))),_)] _ _ _):=k;have HC8:Hid (Ty vZ (C.setIfInBounds 8 (.int .u32 (IntKind.u32.wrap (pc+4))))):=gf HC.out (by omega) (qt _).1 (qt _).2;generalize C.setIfInBounds 8 (.int .u32 (IntKind.u32.wrap (pc+4)))=C8 at k HC8;have hs8:C8.size=9:=HC8.out.size;have ho8:=HC8.out.one;obtain⟨p8,ep8,p80,p81⟩:=HC8.out.u32 8 rfl;rw[<-Array.getElem?_toList] at ep8;have f8:Nat.blt 8 C8.size=true:=by rw[hs8];rfl
        go_wp2_with(first|((with_reducible refine zz ?_);refine lda k rfl rfl .a2 (by with_reducible assumption) ?_)|((with_reducible refine zx ?_);refine soa k rfl rfl rfl .a1 (by with_reducible assumption) (by rfl) (by assumption) ?_;clear k;intro W k));exact bodyPost_ret (yg rfl _ rfl rfl rfl (zY k.out 1 rfl 125 (Tryz.isAgg125 _) (Tryz.sizeOf125 _) hs8)) rfl ⟨_,m,3,rfl,HC8.out,rfl,by decide,k.out.end⟩
       ·have hop:(14<=op/\op<=17\/op=24)=False:=by
         apply eq_false;omega
        have d14:(op==14)=false:=by rw[beq_eq_false_iff_ne];exact o14
        have d15:(op==15)=false:=by rw[beq_eq_false_iff_ne];exact o15
        have d16:(op==16)=false:=by rw[beq_eq_false_iff_ne];exact o16
        have d17:(op==17)=false:=by rw[beq_eq_false_iff_ne];exact o17
        have d24:(op==24)=false:=by rw[beq_eq_false_iff_ne];exact o24
        have HOP:=Lib.hid hop;clear hop o14 o15 o16 o17 o24;go_wp2_with((with_reducible refine zz ?_);first|(refine ld1 k rfl rfl (by repeat constructor) (by rfl) ?_)|(refine lda k rfl rfl (by repeat constructor) (by first|with_reducible assumption|rfl) ?_));refine(does_any C op a b i _ (HT.out.below k.out.end) (cpuC_of HC.out) HW.out HOP.out).mono ?_;rintro e W1 ⟨C1,b1,rfl,hC1,hb⟩;replace k:=zj (k.out.call hb);have hs1:C1.size=9:=hC1.1;have ho1:=hC1.ty.one;have HC1:Hid (Ty vZ C1):=hC1.ty;clear hb hC1;go_wp2_with(first|((with_reducible refine zz ?_);refine lda k rfl rfl .a2 (by with_reducible assumption) ?_)|((with_reducible refine zx ?_);refine soa k rfl rfl rfl (by repeat constructor) (by with_reducible assumption) (by first|with_reducible assumption|rfl) (by assumption) ?_;clear k;intro W k));exact bodyPost_ret (yg rfl _ rfl rfl rfl (zY k.out 1 rfl 125 (Tryz.isAgg125 _) (Tryz.sizeOf125 _) hs1)) rfl ⟨_,m,0,rfl,HC1.out,rfl,by decide,k.out.end⟩
  ·go_wp2_with fail
   refine(take_no v _ (HT.out.below k.out.end) hv0 hv1 (by simpa using hw)).mono ?_;rintro e W1 ⟨rfl,hb⟩;replace k:=zj (k.out.call hb);clear hb;go_wp2_with(first|((with_reducible refine zz ?_);refine lda k rfl rfl .a2 (by with_reducible assumption) ?_)|((with_reducible refine zx ?_);refine soa k rfl rfl rfl (by repeat constructor) (by first|with_reducible assumption|rfl) (by rfl) (by first|exact zm rfl|assumption) ?_;clear k;intro W k)|((with_reducible refine zf ?_);refine ala k Tryz.zeroValue230 ?_;clear k;intro b230 X W k));exact bodyPost_ret (yg rfl _ rfl rfl rfl (zY k.out 1 rfl 125 (Tryz.isAgg125 _) (Tryz.sizeOf125 _) hs)) rfl ⟨C,m,1,rfl,HC.out,rfl,by decide,k.out.end⟩
 ·go_wp2_with(first|((with_reducible refine zz ?_);refine lda k rfl rfl .a1 (by with_reducible assumption) ?_)|((with_reducible refine zx ?_);refine soa k rfl rfl rfl .a0 (by with_reducible assumption) (by rfl) (by assumption) ?_;clear k;intro W k))
  exact bodyPost_ret (yg rfl _ rfl rfl rfl (zY k.out 0 rfl 125 (Tryz.isAgg125 _) (Tryz.sizeOf125 _) hs)) rfl ⟨C,m,2,rfl,HC.out,rfl,by decide,k.out.end⟩
end
section
open Go.RowKit Go.Proofs.YtaccidkgnkmagaaGreatDoor.Isa
theorem asks_any(bk n s m:Nat)(x:Kn)(X0:Nat->Prop)(w:World)(h:KPre bk n s m x X0 w)(r:Array Value)(hr:Ty yu r)(hin:zX r∈xh x.P)(hpar:0<=ym r/\ym r<zX r)(N A B C:Int)(hc:qk N A B C)(him:x.Im≠ [])(hw0:x.want=0)(hnn:n+3<=1000000)(hmm:m+1<=1000000):
  Calls Tryz.prog 93 #[.pointer (some ⟨bk,0,none⟩),.agg r,.agg #[.int .u32 N,.int .u32 A,.int .u32 B,.int .u32 C]] w (qX bk (n+3) (s+1) (m+1) x X0 w (fun e x'=>AsksR e x')):=by
 by_cases h1:N=1
 ·subst h1
  exact asks_1 bk n s m x X0 w h r hr hin hpar A B C hc him hw0 hnn hmm
 by_cases h7:N=7
 ·subst h7
  exact asks_7 bk n s m x X0 w h r hr hin hpar A B C hc him hw0 hnn hmm
 by_cases h8:N=8
 ·subst h8
  exact asks_8 bk n s m x X0 w h r hr hin hpar A B C hc him hw0 hnn hmm
 by_cases h20:N=20
 ·subst h20
  exact asks_20 bk n s m x X0 w h r hr hin hpar A B C hc him hw0 hnn hmm
 by_cases h19:N=19
 ·subst h19
  exact asks_19 bk n s m x X0 w h r hr hin hpar A B C hc him hw0 hnn hmm
 by_cases h18:N=18
 ·subst h18
  exact asks_18 bk n s m x X0 w h r hr hin hpar A B C hc him hw0 hnn hmm
 by_cases h5:N=5
 ·subst h5
  exact asks_5 bk n s m x X0 w h r hr hin hpar A B C hc him hw0 hnn hmm
 by_cases h3:N=3
 ·subst h3
  exact asks_3 bk n s m x X0 w h r hr hin hpar A B C hc him hw0 hnn hmm
 by_cases h2:N=2
 ·subst h2
  exact asks_2 bk n s m x X0 w h r hr hin hpar A B C hc him hw0 hnn hmm
 by_cases h17:N=17
 ·subst h17
  exact asks_17 bk n s m x X0 w h r hr hin hpar A B C hc him hw0 hnn hmm
 exact asks_else bk n s m x X0 w h r hr hin hpar N h1 h7 h8 h20 h19 h18 h5 h3 h2 h17 A B C hc him hw0 hnn hmm
theorem jt{M:Nat->Prop}{w W:World}(h:Tab w)(ho:Only M w W)(hn: ¬M 0):Tab W:=
 ⟨Nat.lt_of_lt_of_le h.1 ho.size,fun n hn'=>(ho.cell (p:=⟨0,n,none⟩) h.1 hn).trans (h.2 n hn')⟩
theorem cpu_of{r:Array Value}(h:Ty yu r): ∃F:Array Value,Ty vZ F/\(r.toList.drop 3).take 9=F.toList/\Nat.ble (3+9) r.size=true:=
 ⟨r.extract 3 (3+9),cpu_of_proc h,by simp,by rw[h.size];rfl⟩
theorem goes_row{r C:Array Value}(h:Ty yu r)(hC:Ty vZ C){q:ByteArray}(hq:q.size<=64):
  Ty yu ((patch r 3 C).setIfInBounds 12 (.string q))/\zX ((patch r 3 C).setIfInBounds 12 (.string q))=zX r/\ym ((patch r 3 C).setIfInBounds 12 (.string q))=ym r/\qV ((patch r 3 C).setIfInBounds 12 (.string q))=qV r:=by
 have hs:r.size=26:=h.size;have hl: ∀j,j<3->zQ ((patch r 3 C).setIfInBounds 12 (.string q)) j=zQ r j:=fun j hj=>by
  unfold zQ;rw[Array.getElem?_setIfInBounds_ne (by omega),jw _ _ _ j hj (by omega)]
 exact⟨(h.patch hC 3 rfl (by decide)).set (j:=12) rfl (Zk hq),hl 0 (by decide),hl 1 (by decide),hl 2 (by decide)⟩
theorem cstep_zero(C:Array Value)(m:ByteArray)(w:World)(hC:Ty vZ C)(hm:m.size=0):
  Calls Tryz.prog 92 #[.agg C,.string m] w fun e w'=>e= .returned (.tuple #[.agg C,.string m,.int .i64 2])/\Below w.heap.size w w':=by
 have k:Hid (St (fun _=>False) (fun _=>False) w [] (fun _ _=>True) (fun _=>False) w):=St.begin (fun _ h=>h.elim) trivial xZ;have hs:C.size=9:=hC.size;have ho:=hC.one;obtain⟨pc,epc,pc0,pc1⟩:=hC.u32 8 rfl;rw[<-Array.getElem?_toList] at epc;have HM:=Lib.hid hm;clear hC hm;go_enter Tryz.func92,Tryz.ntmps92;go_wp2_with(first|((with_reducible refine zz ?_);refine ld1 k rfl rfl .a1 (by with_reducible assumption) ?_)|((with_reducible refine zI ?_);refine bxa k rfl ?_;clear k;intro b X W k)|((with_reducible refine zf ?_);refine ala k Tryz.zeroValue125 ?_;clear k;intro b125 X W k));refine(load_no m pc _ (by rw[HM.out];exact Nat.zero_le _) pc0 pc1 (by rw[HM.out];omega)).mono ?_;rintro e W1 ⟨rfl,rfl⟩;go_wp2_with(first|((with_reducible refine zz ?_);refine lda k rfl rfl .a1 (by with_reducible assumption) ?_)|((with_reducible refine zx ?_);refine soa k rfl rfl rfl .a0 (by with_reducible assumption) (by rfl) (by assumption) ?_;clear k;intro W k));exact bodyPost_ret (yg rfl _ rfl rfl rfl (zY k.out 0 rfl 125 (Tryz.isAgg125 _) (Tryz.sizeOf125 _) hs)) rfl ⟨rfl,k.out.end⟩
theorem goes_any(bk n s m:Nat)(x:Kn)(X0:Nat->Prop)(w:World)(h:KPre bk n s m x X0 w)(hT:Tab w)(hbt:bk≠0)(him:x.Im≠ [])(hw0:x.want=0)(hnn:n+3<=1000000)(hmm:m+1<=1000000):
  Calls Tryz.prog 70 #[.pointer (some ⟨bk,0,none⟩)] w (qX bk (n+3) (s+1) (m+1) x X0 w (fun e _=>e= .returned (.tuple #[]))):=by
 have k:=zj h.begin;have OK:=Lib.hid h.ok;have HB:=Lib.hid h.blk;have hn:=h.hn;have hs:=h.hs;have hm:=h.hm;have HIM:=Lib.hid him;have HW:=Lib.hid hw0;have HT:=Lib.hid hT;have HBT:=Lib.hid hbt;clear h him hw0 hT hbt;go_enter Tryz.func70,Tryz.ntmps70;go_wp2_with((with_reducible refine zz ?_);refine ldp k rfl rfl .a0 (D:= #[_,_]) (by rfl) (by rfl) ?_);refine(tfirst_any _ x.T x.left _ _ k.out.fact.T OK.out.T k.out.lt).mono ?_;rintro e W1 ⟨⟨pid,b,rfl,hpid⟩,hb⟩;replace k:=zj (k.out.call hb);clear hb;cases b with
 |false=>
  clear hpid;go_wp2_with fail;exact bodyPost_ret (results_none rfl _) rfl (k.out.kpost 0 rfl HB.out k.out.fact (OK.out.mono (by omega) (by omega) (by omega)) (KRel.refl x) rfl)
 |true=>
  have hp1:1<=pid:=hpid rfl;clear hpid;go_wp2_with((with_reducible refine zz ?_);refine ld1 k rfl rfl .a0 (by rfl) ?_);refine(jk _ x.P pid _ _ k.out.fact.P OK.out.P.ty).mono ?_;rintro e W1 ⟨r,b,rfl,hr,hf1,hf2,hb⟩;have hrs:r.size=26:=hr.size;have hro:=hr.one;replace k:=zj (k.out.call hb);clear hb;obtain⟨F,hF,eF,fF⟩:=cpu_of hr;obtain⟨mm,emm,hmm6⟩:=mem_at hr;cases b with
  |false=>
   have hz:=(hf2 rfl).2.2.2.2.1;have hm0:mm.size=0:=by
    rw[<-Array.getElem?_toList,emm] at hz;injection hz with hz;injection hz with hz;rw[hz];rfl
   have HM0:=Lib.hid hm0;clear hf1 hf2 hz hm0;go_wp2_with(first|((with_reducible refine zz ?_);first|(refine ldp k rfl rfl .a0 (D:=F) eF fF ?_)|(refine ld1 k rfl rfl .a0 (by with_reducible assumption) ?_))|((with_reducible refine zx ?_);refine soa k rfl rfl rfl .a0 (by with_reducible assumption) (by rfl) (by assumption) ?_;clear k;intro W k)|((with_reducible refine zf ?_);refine ala k Tryz.zeroValue132 ?_;clear k;intro b132 X W k));refine(cstep_zero F mm _ hF HM0.out).mono ?_;rintro e W1 ⟨rfl,hb⟩;replace k:=zj (k.out.call hb);have hFs:F.size=9:=hF.size;have hFo:=hF.one;clear hb;have f12:Nat.blt 12 (patch r 3 F).size=true:=by rw[yd _ _ _ (by omega),hrs];rfl
   go_wp2_with(first|((with_reducible refine zz ?_);refine lda k rfl rfl .a0 (by with_reducible assumption) ?_)|((with_reducible refine zx ?_);first|(refine so1 k rfl rfl rfl (by rfl) .a1 (by with_reducible assumption) rfl ?_;clear k;intro W k)|(refine soa k rfl rfl rfl .a0 (by with_reducible assumption) (by first|with_reducible assumption|rfl) (by assumption) ?_;clear k;intro W k)|(refine sop k rfl rfl rfl .a1 (by with_reducible assumption) (by with_reducible assumption) (by assumption) rfl ?_;clear k;intro W k))|((with_reducible refine zf ?_);refine ala k Tryz.zeroValue125 ?_;clear k;intro b125 X W k));refine(ZY bk n s m x _ _ ⟨k.out.blk (i:=2) rfl,(k.out.box (i:=2) rfl).1,k.out.lt,k.out.fact,OK.out,(by omega),(by omega),(by omega)⟩ pid 130 2 hp1 (by omega) (by omega) (.inr (.inr rfl)) HIM.out).mono ?_;rintro e W1 ⟨x1,⟨rfl,hw1,hkeep⟩,hok1,hsl1,hrel1,hb⟩;replace k:=zj (k.out.kcall (i:=2) rfl hb hsl1);clear hb hsl1;go_wp2_with fail;exact bodyPost_ret (results_none rfl _) rfl (k.out.kpost 2 rfl HB.out k.out.fact (hok1.mono (by omega) (by omega) (by omega)) hrel1 rfl)
  |true=>
   obtain⟨hm1,hq1⟩:=hf1 rfl;have HM1:=Lib.hid hm1;have HQ1:=Lib.hid hq1;have HR:=Lib.hid hr;have HF:=Lib.hid hF;clear hf1 hf2 hm1 hq1 hr hF;go_wp2_with(first|((with_reducible refine zz ?_);first|(refine ldp k rfl rfl .a0 (D:=F) eF fF ?_)|(refine ld1 k rfl rfl .a0 (by with_reducible assumption) ?_))|((with_reducible refine zx ?_);refine soa k rfl rfl rfl .a0 (by with_reducible assumption) (by rfl) (by assumption) ?_;clear k;intro W k)|((with_reducible refine zf ?_);refine ala k Tryz.zeroValue132 ?_;clear k;intro b132 X W k));refine(cstep_any F mm _ (jt HT.out k.out.only (fun e=>HBT.out e.symm)) HF.out (by omega)).mono ?_;rintro e W1 ⟨C1,m1,tr,rfl,hC1,hm1,htr,hb⟩;replace k:=zj (k.out.call hb);clear hb;obtain⟨hT1,hpi1,hpa1,hst1⟩:=goes_row HR.out hC1 (show m1.size<=64 by omega);have hCs:C1.size=9:=hC1.size;have hCo:=hC1.one;have HC1:=Lib.hid hC1;have f12:Nat.blt 12 (patch r 3 C1).size=true:=by rw[yd _ _ _ (by omega),hrs];rfl
   clear hC1
   go_upto_region 5 with(first|((with_reducible refine zz ?_);refine lda k rfl rfl .a0 (by with_reducible assumption) ?_)|((with_reducible refine zx ?_);first|(refine so1 k rfl rfl rfl (by rfl) .a1 (by with_reducible assumption) rfl ?_;clear k;intro W k)|(refine soa k rfl rfl rfl .a0 (by with_reducible assumption) (by first|with_reducible assumption|rfl) (by assumption) ?_;clear k;intro W k)|(refine sop k rfl rfl rfl .a1 (by with_reducible assumption) (by with_reducible assumption) (by assumption) rfl ?_;clear k;intro W k))|((with_reducible refine zf ?_);refine ala k Tryz.zeroValue125 ?_;clear k;intro b125 X W k))
   replace k:Hid (St _ _ _ [(b125,C1,_),(b132,(patch r 3 C1).setIfInBounds 12 (.string m1),_),(_,KC x,_)] _ _ _):=k;clear eF fF emm f12 hrs hro;generalize (patch r 3 C1).setIfInBounds 12 (.string m1)=r1 at k hT1 hpi1 hpa1 hst1;have hrs1:r1.size=26:=hT1.size;have hro1:=hT1.one;have HT1:=Lib.hid hT1;have HPI:Hid (zX r1=zX r):=hpi1;have HPA:Hid (ym r1=ym r):=hpa1;have hIn:zX r1∈xh x.P:=by rw[hpi1];exact xk HM1.out
   have hPar:0<=ym r1/\ym r1<zX r1:=by rw[hpa1,hpi1];exact OK.out.P.par r HM1.out
   have hPO:=OK.out.P.put hT1 hIn hPar;have hpp:=gJ hIn;have HIN:=Lib.hid hIn;have HPR:=Lib.hid hPar;clear hT1 hpi1 hpa1 hst1 hIn hPar;generalize hlP:jV x.P r1=lP at hPO hpp;rcases htr with rfl|rfl|rfl|rfl
   ·go_upto_region 8 with fail
    have HPer:=Lib.hid k.out.per;refine zt k 11 12 (by kernel_rfl) rfl ?_;clear k;intro W k;refine zq [(0,some 52,[11]),(1,some 53,[11]),(2,some 54,[11]),(3,some 55,[11]),(4,some 56,[11]),(5,some 57,[11]),(6,some 58,[11])] [?v1_0,?v1_1,?v1_2,?v1_3,?v1_4,?v1_5,?v1_6] 5 (by kernel_rfl) ⟨_,k.out⟩ ?l1 ?h1;case l1=>
     intro w' hSw;iterate 7
      refine lkw rfl rfl (by rfl) ?_ ?_
      ·first|((with_reducible refine yw ?_);first|exact hSw.l1 rfl rfl (by repeat constructor) (by rfl)|exact hSw.la rfl rfl .a1 (by with_reducible assumption) (by rfl))|(go_simp<;>with_reducible rfl)
      try simp only[Act.put,tS,t0,t1]
     trivial
    simp only[zw,zk,Act.put,tS,t0,t1];refine w1 7 4 (by kernel_rfl) rfl ?_;go_wp2_with fail;refine(vj _ x.P r1 _ _ k.out.fact.P OK.out.P.ty HT1.out (by have:=OK.out.P.len;omega)).mono ?_;rw[hlP];rintro e W1 ⟨v1,rfl,hown,hb⟩;have hv1:=xu hown;have hf:=zV hown (fun q hq=>(hPO.ty q hq).size) k.out.lt;replace k:=zj (k.out.call hb);clear hown hb;go_wp2_with fail;refine zd (yz ⟨_,k.out⟩) ?_;refine zq [(8,some 60,[9,10,11]),(9,some 61,[10,11]),(10,some 62,[11])] [?v2_8,?v2_9,?v2_10] 1 (by kernel_rfl) ⟨_,k.out⟩ ?l2 ?h2;case l2=>
     intro w' hSw;iterate 3
      refine lkw rfl rfl (by rfl) ?_ ?_
      ·go_simp<;>with_reducible rfl
      try simp only[Act.put,tS,t0,t1]
     trivial
    simp only[zw,zk,Act.put,tS,t0,t1];refine w1 11 0 (by kernel_rfl) rfl ?_;replace k:=zj (k.out.add hf (zb _ _ _));clear hf;go_wp2_with((with_reducible refine zx ?_);refine yE k (E:=KC {x with vP:=v1,P:=lP}) (G':=KSl {x with vP:=v1,P:=lP}) rfl rfl rfl hv1 .a2 (by rfl) (by rfl) (zO _) (fun X W h=>{h.1 with P:=h.2}) ?_;clear k;intro W k);refine zd (zJ rfl) ?_;refine zv (by kernel_rfl) ?_ _;clear HPer;go_wp2_with((with_reducible refine zz ?_);refine ldp k rfl rfl .a2 (D:= #[_,_]) (by rfl) (by rfl) ?_);refine(tspend_any _ x.T x.left _ _ k.out.fact.T OK.out.T k.out.lt (by have:=OK.out.Tl;omega) #[.int .i64 1]).mono ?_;rintro e W3 ⟨vt,lt,lft,rfl,ht1,ht2,ht3,hb⟩;have hvt:=ht1.one;replace k:=zj ((k.out.call hb).add ht1 (zb _ _ _));clear hb ht1;go_wp2_with(first|((with_reducible refine zx ?_);refine sopt k (E:=KC {x with vP:=v1,P:=lP,vT:=vt,left:=lft,T:=lt}) (G':=KSl {x with vP:=v1,P:=lP,vT:=vt,left:=lft,T:=lt}) rfl rfl rfl .a2 (by rfl) (by rfl) (yU hvt rfl) (by rfl) (zO _) (fun X W h=>{h.1 with T:=h.2}) ?_;clear k;intro W k)|fail);exact bodyPost_ret (results_none rfl _) rfl (k.out.kpost (x':={x with vP:=v1,P:=lP,vT:=vt,left:=lft,T:=lt}) 2 rfl HB.out k.out.fact ((show KOk n s m {x with vP:=v1,P:=lP,vT:=vt,left:=lft,T:=lt} from{OK.out with P:=hPO,T:=(fun q hq=>(ht2 q hq).elim (OK.out.T q) (fun e=>e▸⟨1,rfl,by decide⟩)),Tl:=Nat.le_trans ht3 OK.out.Tl}).mono (by omega) (by omega) (by omega)) ⟨rfl,rfl,rfl,rfl⟩ rfl)
   ·go_wp2_with fail
    refine(ZY bk n s m x _ _ ⟨k.out.blk (i:=2) rfl,(k.out.box (i:=2) rfl).1,k.out.lt,k.out.fact,OK.out,(by omega),(by omega),(by omega)⟩ pid 129 1 hp1 (by omega) (by omega) (.inr (.inl rfl)) HIM.out).mono ?_;rintro e W1 ⟨x1,⟨rfl,hw1,hkeep⟩,hok1,hsl1,hrel1,hb⟩;replace k:=zj (k.out.kcall (i:=2) rfl hb hsl1);clear hb hsl1;go_wp2_with fail;exact bodyPost_ret (results_none rfl _) rfl (k.out.kpost 2 rfl HB.out k.out.fact (hok1.mono (by omega) (by omega) (by omega)) hrel1 rfl)
   ·go_wp2_with fail
    refine(ZY bk n s m x _ _ ⟨k.out.blk (i:=2) rfl,(k.out.box (i:=2) rfl).1,k.out.lt,k.out.fact,OK.out,(by omega),(by omega),(by omega)⟩ pid 130 2 hp1 (by omega) (by omega) (.inr (.inr rfl)) HIM.out).mono ?_;rintro e W1 ⟨x1,⟨rfl,hw1,hkeep⟩,hok1,hsl1,hrel1,hb⟩;replace k:=zj (k.out.kcall (i:=2) rfl hb hsl1);clear hb hsl1;go_wp2_with fail;exact bodyPost_ret (results_none rfl _) rfl (k.out.kpost 2 rfl HB.out k.out.fact (hok1.mono (by omega) (by omega) (by omega)) hrel1 rfl)
   ·go_upto_region 10 with fail
    have HPer:=Lib.hid k.out.per;refine zt k 11 12 (by kernel_rfl) rfl ?_;clear k;intro W k;refine zq [(0,some 65,[11]),(1,some 66,[11]),(2,some 67,[11]),(3,some 68,[11]),(4,some 69,[11]),(5,some 70,[11]),(6,some 71,[11])] [?v3_0,?v3_1,?v3_2,?v3_3,?v3_4,?v3_5,?v3_6] 5 (by kernel_rfl) ⟨_,k.out⟩ ?l3 ?h3;case l3=>
     intro w' hSw;iterate 7
      refine lkw rfl rfl (by rfl) ?_ ?_
      ·first|((with_reducible refine yw ?_);first|exact hSw.l1 rfl rfl (by repeat constructor) (by rfl)|exact hSw.la rfl rfl .a1 (by with_reducible assumption) (by rfl))|(go_simp<;>with_reducible rfl)
      try simp only[Act.put,tS,t0,t1]
     trivial
    simp only[zw,zk,Act.put,tS,t0,t1];refine w1 7 4 (by kernel_rfl) rfl ?_;go_wp2_with fail;refine(vj _ x.P r1 _ _ k.out.fact.P OK.out.P.ty HT1.out (by have:=OK.out.P.len;omega)).mono ?_;rw[hlP];rintro e W1 ⟨v1,rfl,hown,hb⟩;have hv1:=xu hown;have hf:=zV hown (fun q hq=>(hPO.ty q hq).size) k.out.lt;replace k:=zj (k.out.call hb);clear hown hb;go_wp2_with fail;refine zd (yz ⟨_,k.out⟩) ?_;refine zq [(8,some 73,[9,10,11]),(9,some 74,[10,11]),(10,some 75,[11])] [?v4_8,?v4_9,?v4_10] 1 (by kernel_rfl) ⟨_,k.out⟩ ?l4 ?h4;case l4=>
     intro w' hSw;iterate 3
      refine lkw rfl rfl (by rfl) ?_ ?_
      ·go_simp<;>with_reducible rfl
      try simp only[Act.put,tS,t0,t1]
     trivial
    simp only[zw,zk,Act.put,tS,t0,t1];refine w1 11 0 (by kernel_rfl) rfl ?_;replace k:=zj (k.out.add hf (zb _ _ _));clear hf;go_wp2_with((with_reducible refine zx ?_);refine yE k (E:=KC {x with vP:=v1,P:=lP}) (G':=KSl {x with vP:=v1,P:=lP}) rfl rfl rfl hv1 .a2 (by rfl) (by rfl) (zO _) (fun X W h=>{h.1 with P:=h.2}) ?_;clear k;intro W k);refine zd (zJ rfl) ?_;refine zv (by kernel_rfl) ?_ _;clear HPer;have OK1:Hid (KOk n s m {x with vP:=v1,P:=lP}):={OK.out with P:=hPO};obtain⟨x1,hx1⟩: ∃x1:Kn,x1={x with vP:=v1,P:=lP}:=⟨_,rfl⟩;replace k:Hid (St _ _ _ [(b125,C1,_),(b132,r1,_),(_,KC {x with vP:=v1,P:=lP},_)] (KSl {x with vP:=v1,P:=lP}) _ _):=k;rw[<-hx1] at k OK1;have REL1:Hid (KRel x x1/\x1.want=x.want/\xh x1.P=xh x.P):=by rw[hx1];exact⟨⟨rfl,rfl,rfl,rfl⟩,rfl,hpp⟩
    clear hx1 hPO hpp hlP hv1
    go_upto_region 11 with fail
    have HPer:=Lib.hid k.out.per;refine zt k 4 6 (by kernel_rfl) rfl ?_;clear k;intro W k;refine zq [(0,some 76,[4]),(1,some 77,[4]),(2,some 78,[3,4])] [?v5_0,?v5_1,?v5_2] 3 (by kernel_rfl) ⟨_,k.out⟩ ?l5 ?h5;case l5=>
     intro w' hSw;iterate 3
      refine lkw rfl rfl (by rfl) ?_ ?_
      ·first|((with_reducible refine yw ?_);first|exact hSw.la rfl rfl (by repeat constructor) (by with_reducible assumption) (by rfl)|exact hSw.lp rfl rfl (by repeat constructor) (D:= #[_,_,_,_,_,_,_,_,_]) (by rfl) (by rfl) (by rfl))|(go_simp<;>with_reducible rfl)
      try simp only[Act.put,tS,t0,t1]
     trivial
    simp only[zw,zk,Act.put,tS,t0,t1];refine w1 3 2 (by kernel_rfl) rfl ?_;go_wp2_with fail;refine(cfrom_any C1 _ HC1.out).mono ?_;rintro e W1 ⟨N,A,B,C,rfl,hN,hA,hB,hCC,hb⟩;have HCA:Hid (qk N A B C):=⟨hN,hA,hB,hCC⟩;replace k:=zj (k.out.call hb);clear hb;go_wp2_with fail;refine zd (yz ⟨_,k.out⟩) ?_;refine w1 4 1 (by kernel_rfl) rfl ?_;go_wp2_with fail;refine(asks_any bk n s m x1 _ _ ⟨k.out.blk (i:=2) rfl,(k.out.box (i:=2) rfl).1,k.out.lt,k.out.fact,OK1.out,(by omega),(by omega),(by omega)⟩ r1 HT1.out (by rw[REL1.out.2.2];exact HIN.out) HPR.out N A B C HCA.out (by rw[REL1.out.1.Im];exact HIM.out) (REL1.out.2.1.trans HW.out) hnn hmm).mono ?_;rintro e W2 ⟨x2,⟨b2,rfl⟩,hok2,hsl2,hrel2,hb⟩;have OK2:=Lib.hid hok2;have REL2:=Lib.hid hrel2;replace k:=zj (k.out.kcall (i:=2) rfl hb hsl2);clear hb hsl2 hok2 hrel2;go_wp2_with fail;refine zd (zJ rfl) ?_;refine zU [(5,some 81,[])] [?v6_5] 0 (by kernel_rfl) (.inr (by kernel_rfl)) ?l6 ?h6;case l6=>
     intro w';refine lkw rfl rfl (by rfl) ?_ ?_
     ·go_simp<;>with_reducible rfl
     try simp only[Act.put,tS,t0,t1]
     trivial
    simp only[zw,zk,Act.put,tS,t0,t1];refine zv (by kernel_rfl) ?_ _;clear HPer;replace k:Hid (St _ _ _ [(b125,C1,_),(b132,r1,_),(_,KC x2,_)] _ _ _):=k;cases b2 with
    |false=>
     go_wp2_with fail;exact bodyPost_ret (results_none rfl _) rfl (k.out.kpost 2 rfl HB.out k.out.fact OK2.out (REL1.out.1.trans REL2.out) rfl)
    |true=>
     go_wp2_with((with_reducible refine zz ?_);refine ldp k rfl rfl .a2 (D:= #[_,_]) (by rfl) (by rfl) ?_);refine(tspend_any _ x2.T x2.left _ _ k.out.fact.T OK2.out.T k.out.lt (by have:=OK2.out.Tl;omega) #[.int .i64 1]).mono ?_;rintro e W3 ⟨vt,lt,lft,rfl,ht1,ht2,ht3,hb⟩;have hvt:=ht1.one;replace k:=zj ((k.out.call hb).add ht1 (zb _ _ _));clear hb ht1;go_wp2_with(first|((with_reducible refine zx ?_);refine sopt k (E:=KC {x2 with vT:=vt,left:=lft,T:=lt}) (G':=KSl {x2 with vT:=vt,left:=lft,T:=lt}) rfl rfl rfl .a2 (by rfl) (by rfl) (yU hvt rfl) (by rfl) (zO _) (fun X W h=>{h.1 with T:=h.2}) ?_;clear k;intro W k)|fail);exact bodyPost_ret (results_none rfl _) rfl (k.out.kpost (x':={x2 with vT:=vt,left:=lft,T:=lt}) 2 rfl HB.out k.out.fact ((show KOk (n+3) (s+1) (m+1) {x2 with vT:=vt,left:=lft,T:=lt} from{OK2.out with T:=(fun q hq=>(ht2 q hq).elim (OK2.out.T q) (fun e=>e▸⟨1,rfl,by decide⟩)),Tl:=Nat.le_trans ht3 OK2.out.Tl}).mono (by omega) (by omega) (by omega)) ((REL1.out.1.trans REL2.out).trans ⟨rfl,rfl,rfl,rfl⟩) rfl)
end
end Go.Proofs.YtaccidkgnkmagaaGreatDoor.Top
