/-
  Walks and laws of the whole machine: Route, Plan, Check. Conditions: each theorem names its own.
-/
import Derived.Test.YtaccidkgnkmagaaGreatDoorTs12
set_option maxRecDepth 16000
set_option maxHeartbeats 12800000
set_option linter.unusedVariables false
set_option linter.unusedSimpArgs false
namespace Go.Proofs.YtaccidkgnkmagaaGreatDoor.Top
open Go.RowKit
def PLC(vP:Value)(fr:Int)(vW vC:Value):Array Value:= #[vP,.int .i64 fr,vW,vC]
theorem outs1_any(r:Array Value)(b:Nat)(x:Int)(w:World)(hr:Ty gx r)(hb:b<w.heap.size)(hc:w.cell? ⟨b,0,none⟩=some (.int .i64 x)):
  Calls Tryz.prog 37 (#[.agg r]++ #[.pointer (some ⟨b,0,none⟩)]) w fun e w'=>e= .returned (.bool (zQ r 1==x))/\Below w.heap.size w w':=by
 have e0:=xq hr 1 rfl;have hne:b≠w.heap.size:=by omega
 clear hr;go_enter Tryz.func37,Tryz.ntmps37;go_wp2_with(refine yf rfl 87 (.tmp 0) rfl _ rfl r rfl ?_;intro W1 hk1 hb1 hz1;obtain⟨c1,f1⟩:=hk1.rules;have g1:=(hb1.cell (p:=⟨b,0,none⟩) hb).trans hc)
 go_ret
 exact⟨rfl,hb1⟩
theorem isFn37:Zp Tryz.prog 37:=⟨_,Tryz.func37,by kernel_rfl,by kernel_rfl⟩
theorem ins1_any(r:Array Value)(b:Nat)(x:Int)(w:World)(hr:Ty gx r)(hb:b<w.heap.size)(hc:w.cell? ⟨b,0,none⟩=some (.int .i64 x)):
  Calls Tryz.prog 38 (#[.agg r]++ #[.pointer (some ⟨b,0,none⟩)]) w fun e w'=>e= .returned (.bool (zQ r 2==x))/\Below w.heap.size w w':=by
 have e0:=xq hr 2 rfl;have hne:b≠w.heap.size:=by omega
 clear hr;go_enter Tryz.func38,Tryz.ntmps38;go_wp2_with(refine yf rfl 87 (.tmp 0) rfl _ rfl r rfl ?_;intro W1 hk1 hb1 hz1;obtain⟨c1,f1⟩:=hk1.rules;have g1:=(hb1.cell (p:=⟨b,0,none⟩) hb).trans hc)
 go_ret
 exact⟨rfl,hb1⟩
theorem isFn38:Zp Tryz.prog 38:=⟨_,Tryz.func38,by kernel_rfl,by kernel_rfl⟩
def TestC(fv:Value)(l:List (Array Value))(p:Array Value->Bool)(n:Nat)(w:World):Prop:=
 ∃F caps,fv= .func (.func F) #[] caps/\Zp Tryz.prog F/\ ∀r∈l,∀W,Below n w W->Calls Tryz.prog F (#[.agg r]++caps) W fun e W'=>e= .returned (.bool (p r))/\Below W.heap.size W W'
theorem not_any(fv:Value)(l:List (Array Value))(p:Array Value->Bool)(n:Nat)(w V:World)(hT:TestC fv l p n w)(hW:Below n w V)(hn:n<=w.heap.size)(r:Array Value)(hr:r∈l)(hs:r.size=5)(b:Nat)(hbl:b<V.heap.size)(hk:V.cell? ⟨b,0,none⟩=some fv):
  Calls Tryz.prog 55 (#[.agg r]++ #[.pointer (some ⟨b,0,none⟩)]) V fun e W'=>e= .returned (.bool (!p r))/\Below V.heap.size V W':=by
 obtain⟨F,caps,rfl,hF,hc⟩:=hT;have HC:=Lib.hid hc;have hcf: ∀args w,(callFunc F args).run Tryz.prog w= .ok (.enter F args) w:=fun args w=>yk hF args;have k:Hid (St (fun _=>False) (fun _=>False) V [] (fun _ _=>True) (fun _=>False) V):=St.begin (fun _ h=>h.elim) trivial xZ;have HK:=Lib.hid hk;have hne:b≠V.heap.size:=by omega
 clear hc hF hk;go_enter Tryz.func55,Tryz.ntmps55
 go_upto_region 1 with((with_reducible refine zI ?_);refine bxa k (T:=87) rfl ?_;clear k;intro c87 X W k)
 have g1:W.cell? ⟨b,0,none⟩=some (.func (.func F) #[] caps):=(k.out.end.cell (p:=⟨b,0,none⟩) hbl).trans HK.out;go_wp2_with((with_reducible refine zz ?_);refine lda k rfl rfl .a0 (by with_reducible assumption) ?_);first|rw[Array.empty_append]|skip
 refine(HC.out r hr _ (hW.trans (k.out.end.mono (Nat.le_trans hn hW.size)))).mono ?_;rintro e W1 ⟨rfl,hb⟩;replace k:=zj (k.out.call hb);clear hb g1;go_wp2_with fail;exact bodyPost_ret (zh rfl rfl) rfl ⟨rfl,k.out.end⟩
theorem isFn55:Zp Tryz.prog 55:=⟨_,Tryz.func55,by kernel_rfl,by kernel_rfl⟩
def SomeR(l:List (Array Value))(X:Nat->Prop)(w:World)(e:Ending)(w':World):Prop:= ∃v,e= .returned v/\Sl 5 v l X w' /\Below w.heap.size w w'
theorem some_any(vP:Value)(fr:Int)(vW vC:Value)(lC:List (Array Value))(fv:Value)(p:Array Value->Bool)(X0:Nat->Prop)(w:World)(hX: ∀b,X0 b->b<w.heap.size)(hsl:Sl 5 vC lC X0 w)(hT: ∀r∈lC,Ty gx r)(hle:lC.length<=1000000)(hp:TestC fv lC p w.heap.size w)(hf1:fv.oneCell'=true):
  Calls Tryz.prog 36 #[.agg (PLC vP fr vW vC),fv] w (SomeR (lC.filter p) X0 w):=by
 have k:Hid (St (fun _=>False) X0 w [] (Sl 5 vC lC) X0 w):=St.begin hX hsl (zb _ _ _);have HT:=Lib.hid hT;have HP:=Lib.hid hp;clear hsl hT hp;go_enter Tryz.func36,Tryz.ntmps36
 go_upto_region 1 with(first|((with_reducible refine zI ?_);refine bxa k (T:=26) rfl ?_;clear k;intro c26 X W k)|((with_reducible refine zI ?_);refine bx1 k (T:=95) rfl hf1 ?_;clear k;intro c95 X W k))
 replace k:Hid (St _ _ _ [(c95,#[fv],_),(c26,PLC vP fr vW vC,_)] _ _ _):=k;go_wp2_with(first|((with_reducible refine zz ?_);refine ld1 k rfl rfl .a1 (by rfl) ?_)|((with_reducible refine zI ?_);refine bx1 k (T:=95) rfl hf1 ?_;clear k;intro c95 X W k));have hbk:=k.out.blk (i:=0) rfl;refine(qO vC lC _ _ k.out.fact (fun r hr=>(HT.out r hr).one) (by omega)).mono ?_;rintro e W1 ⟨v1,rfl,hown,hb⟩;have hbw:=hbk.below hb;have hblt:=hbk.lt;have hWw:=k.out.end;replace k:=zj (k.out.call hb);have HB:=Lib.hid hb;have HO:=Lib.hid hown;clear hb hown;go_wp2_with((with_reducible refine zI ?_);refine bx1 k (T:=95) rfl hf1 ?_;clear k;intro c95 X W k);refine(delChan_any _ v1 lC _ (fun r=> !p r) _ HO.out (fun r hr=>(HT.out r hr).size) (fun r hr=>(HT.out r hr).one) HB.out.size ⟨55,#[.pointer (some ⟨c95,0,none⟩)],rfl,isFn55,fun r hr W' hW'=>not_any fv lC p w.heap.size w W' HP.out ((hWw.trans (HB.out.mono hWw.size)).trans (hW'.mono hWw.size)) (Nat.le_refl _) r hr (HT.out r hr).size c95 (Nat.lt_of_lt_of_le hbw.lt hW'.size) ((hbw.belowN hW' hblt).rules.1 0)⟩).mono ?_;rintro e W2 ⟨v2,rfl,hown2,hb2⟩;have hfl:(lC.filter fun r=> !(!p r))=lC.filter p:=by simp
 rw[hfl] at hown2;have hsz2: ∀r∈lC.filter p,r.size=5:=fun r hr=>(HT.out r (List.mem_filter.1 hr).1).size;have hwend:Below w.heap.size w W2:=hWw.trans ((HB.out.trans hb2).mono hWw.size);have hsl2:Sl 5 v2 (lC.filter p) X0 W2:=zV hown2 hsz2 (fun b hb=>Nat.lt_of_lt_of_le (hX b hb) hWw.size);have HE:=Lib.hid hwend;have HS2:=Lib.hid hsl2;clear k hown2 hb2 hwend hsl2 hsz2 hfl hbk hbw;go_wp2_with fail;exact bodyPost_ret (zh rfl rfl) rfl ⟨v2,rfl,HS2.out,HE.out⟩
theorem routs_any(vP:Value)(fr:Int)(vW vC:Value)(lC:List (Array Value))(part:Int)(X0:Nat->Prop)(w:World)(hX: ∀b,X0 b->b<w.heap.size)(hsl:Sl 5 vC lC X0 w)(hT: ∀r∈lC,Ty gx r)(hle:lC.length<=1000000):
  Calls Tryz.prog 16 #[.agg (PLC vP fr vW vC),.int .i64 part] w (SomeR (lC.filter fun r=>zQ r 1==part) X0 w):=by
 have k:Hid (St (fun _=>False) X0 w [] (Sl 5 vC lC) X0 w):=St.begin hX hsl (zb _ _ _);have HT:=Lib.hid hT;clear hsl hT;go_enter Tryz.func16,Tryz.ntmps16
 go_upto_region 1 with((with_reducible refine zI ?_);first|(refine bxa k (T:=26) rfl ?_;clear k;intro c26 X W k)|(refine bx1 k (T:=3) rfl rfl ?_;clear k;intro c3 X W k))
 replace k:Hid (St _ _ _ [(c3,#[.int .i64 part],_),(c26,PLC vP fr vW vC,_)] _ _ _):=k;go_wp2_with((with_reducible refine zz ?_);refine lda k rfl rfl .a1 (by rfl) ?_);have hbk:=k.out.blk (i:=0) rfl;have hblt:=hbk.lt;refine(some_any vP fr vW vC lC _ (fun r=>zQ r 1==part) _ _ k.out.lt k.out.fact HT.out hle ⟨37,#[.pointer (some ⟨c3,0,none⟩)],rfl,isFn37,fun r hr W' hW'=>outs1_any r c3 part W' (HT.out r hr) (Nat.lt_of_lt_of_le hblt hW'.size) ((hbk.below hW').rules.1 0)⟩ rfl).mono ?_;rintro e W1 ⟨v1,rfl,hsl1,hb⟩;replace k:=zj ((k.out.call hb).add hsl1 (zb _ _ _));clear hb hsl1 hbk;go_wp2_with fail;exact bodyPost_ret (zh rfl rfl) rfl ⟨v1,rfl,k.out.out.2,k.out.end⟩
theorem rins_any(vP:Value)(fr:Int)(vW vC:Value)(lC:List (Array Value))(part:Int)(X0:Nat->Prop)(w:World)(hX: ∀b,X0 b->b<w.heap.size)(hsl:Sl 5 vC lC X0 w)(hT: ∀r∈lC,Ty gx r)(hle:lC.length<=1000000):
  Calls Tryz.prog 17 #[.agg (PLC vP fr vW vC),.int .i64 part] w (SomeR (lC.filter fun r=>zQ r 2==part) X0 w):=by
 have k:Hid (St (fun _=>False) X0 w [] (Sl 5 vC lC) X0 w):=St.begin hX hsl (zb _ _ _);have HT:=Lib.hid hT;clear hsl hT;go_enter Tryz.func17,Tryz.ntmps17
 go_upto_region 1 with((with_reducible refine zI ?_);first|(refine bxa k (T:=26) rfl ?_;clear k;intro c26 X W k)|(refine bx1 k (T:=3) rfl rfl ?_;clear k;intro c3 X W k))
 replace k:Hid (St _ _ _ [(c3,#[.int .i64 part],_),(c26,PLC vP fr vW vC,_)] _ _ _):=k;go_wp2_with((with_reducible refine zz ?_);refine lda k rfl rfl .a1 (by rfl) ?_);have hbk:=k.out.blk (i:=0) rfl;have hblt:=hbk.lt;refine(some_any vP fr vW vC lC _ (fun r=>zQ r 2==part) _ _ k.out.lt k.out.fact HT.out hle ⟨38,#[.pointer (some ⟨c3,0,none⟩)],rfl,isFn38,fun r hr W' hW'=>ins1_any r c3 part W' (HT.out r hr) (Nat.lt_of_lt_of_le hblt hW'.size) ((hbk.below hW').rules.1 0)⟩ rfl).mono ?_;rintro e W1 ⟨v1,rfl,hsl1,hb⟩;replace k:=zj ((k.out.call hb).add hsl1 (zb _ _ _));clear hb hsl1 hbk;go_wp2_with fail;exact bodyPost_ret (zh rfl rfl) rfl ⟨v1,rfl,k.out.out.2,k.out.end⟩
def jE(a:Int):Bool:=decide (a<1)||decide (3<a)
def vu(m a0 a1 a2:Int):Bool:=decide (64<=m)&&decide (m<=1024)&&decide (m% 4=0)&& !(jE a0||(jE a1||jE a2))
def vk(np fr p f l b:Int):Int:=if p<0\/np<=p\/f<0\/l<=2\/fr<l\/fr-l<f then 1 else if f<b then 9 else 0
def qv(np k f t s d:Int):Bool:=decide ((k=1\/k=2)/\0<=f/\f<np/\0<=t/\t<np/\f≠t/\1<=s/\s<=32/\1<=d/\d<=8/\(k=1->d<=1))
theorem act1_any(a:Int)(w:World):Calls Tryz.prog 46 (#[.int .i64 a]++ #[]) w fun e w'=>e= .returned (.bool (jE a))/\Below w.heap.size w w':=by
 by_cases h1:a<1
 ·have d1:decide (a<1)=true:=decide_eq_true h1
  go_enter Tryz.func46,Tryz.ntmps46;go_wp2_with fail
  go_ret
  exact⟨by simp[jE,d1],Below.refl _ _⟩
 ·have d1:decide (a<1)=false:=decide_eq_false h1
  go_enter Tryz.func46,Tryz.ntmps46;go_wp2_with fail;all_goals go_ret
  all_goals exact⟨by simp[jE,d1],Below.refl _ _⟩
theorem isFn46:Zp Tryz.prog 46:=⟨_,Tryz.func46,by kernel_rfl,by kernel_rfl⟩
theorem sl_acts{W:World}{b:Nat}{m a0 a1 a2:Int}{T:TypeId}(hk:Blk W b #[.int .i64 m,.int .i64 a0,.int .i64 a1,.int .i64 a2] T):Sl 1 (.slice (some ⟨b,1,none⟩) 3 3) [#[.int .i64 a0],#[.int .i64 a1],#[.int .i64 a2]] (fun _=>False) W:=by
 refine⟨_,3,rfl,⟨rfl,Nat.le_refl _,by unfold maxLen;decide,(fun h=>by cases h),fun p hp=> ?_⟩,(by intro r hr;simp at hr;rcases hr with rfl|rfl|rfl<;>rfl),fun _ _ _ h=>h.elim⟩;injection hp with hp
 subst hp;refine⟨fun _=>hk.lt,fun j u hu=> ?_⟩;have e1:(⟨b,1,none⟩:Addr).add j=⟨b,1+j,none⟩:=by unfold Addr.add;split<;>simp_all
 rw[e1,hk.rules.1]
 match j,hu with
 |0,hu=>simpa[yy] using hu
 |1,hu=>simpa[yy] using hu
 |2,hu=>simpa[yy] using hu
 |j+3,hu=>simp[yy] at hu
theorem part_any(m a0 a1 a2:Int)(w:World)(hm0: -9223372036854775808<=m)(hm1:m<=9223372036854775807):
  Calls Tryz.prog 29 #[.agg #[.int .i64 m,.int .i64 a0,.int .i64 a1,.int .i64 a2]] w fun e w'=>e= .returned (.bool (vu m a0 a1 a2))/\Below w.heap.size w w':=by
 have k:Hid (St (fun _=>False) (fun _=>False) w [] (fun _ _=>True) (fun _=>False) w):=St.begin (fun _ h=>h.elim) trivial xZ;by_cases h1:64<=m
 ·have d1:decide (64<=m)=true:=decide_eq_true h1
  by_cases h2:m<=1024
  ·have d2:decide (m<=1024)=true:=decide_eq_true h2
   have htm:m.tmod 4=m% 4:=Int.tmod_eq_emod_of_nonneg (by omega);by_cases h3:m% 4=0
   ·have d3:(m% 4==0)=true:=by rw[beq_iff_eq];exact h3
    go_enter Tryz.func29,Tryz.ntmps29;go_wp2_with(first|((with_reducible refine zp ?_);first|refine zg rfl rfl rfl (by with_reducible rfl) ?_)|((with_reducible refine zz ?_);refine ld1 k rfl rfl .a0 (by rfl) ?_)|((with_reducible refine zI ?_);refine bxa k (T:=76) rfl ?_;clear k;intro c76 X W k));have hk:=k.out.blk (i:=0) rfl;refine(hasInt_any _ [#[.int .i64 a0],#[.int .i64 a1],#[.int .i64 a2]] _ (fun r=>jE (zQ r 0)) _ _ (sl_acts hk) _ (Nat.le_refl _) ⟨46,#[],rfl,isFn46,fun r hr W' hW=> ?_⟩).mono ?_
    ·simp only[List.mem_cons,List.not_mem_nil,or_false] at hr
     rcases hr with rfl|rfl|rfl
     ·exact act1_any a0 W'
     ·exact act1_any a1 W'
     ·exact act1_any a2 W'
    rintro e W1 ⟨rfl,hb⟩;replace k:=zj (k.out.call hb);clear hb hk;rw[idxOf_any];have hany:([#[.int .i64 a0],#[.int .i64 a1],#[.int .i64 a2]]:List (Array Value)).any (fun r=>jE (zQ r 0))=(jE a0||(jE a1||jE a2)):=by simp[zQ]
    rw[hany];go_wp2_with((with_reducible refine zp ?_);first|refine zg rfl rfl rfl (by with_reducible rfl) ?_);exact bodyPost_ret (zh rfl rfl) rfl ⟨by simp[vu,d1,d2,h3],k.out.end⟩
   ·have d3:(m% 4==0)=false:=by rw[beq_eq_false_iff_ne];exact h3
    go_enter Tryz.func29,Tryz.ntmps29;go_wp2_with(first|((with_reducible refine zp ?_);first|go_big_skip|refine zg rfl rfl rfl (by with_reducible rfl) ?_)|((with_reducible refine zz ?_);refine ld1 k rfl rfl .a0 (by rfl) ?_)|((with_reducible refine zI ?_);refine bxa k (T:=76) rfl ?_;clear k;intro c76 X W k));exact bodyPost_ret (zh rfl rfl) rfl ⟨by simp[vu,h3],k.out.end⟩
  ·have d2:decide (m<=1024)=false:=decide_eq_false h2
   go_enter Tryz.func29,Tryz.ntmps29;go_wp2_with(first|((with_reducible refine zp ?_);first|go_big_skip|refine zg rfl rfl rfl (by with_reducible rfl) ?_)|((with_reducible refine zz ?_);refine ld1 k rfl rfl .a0 (by rfl) ?_)|((with_reducible refine zI ?_);refine bxa k (T:=76) rfl ?_;clear k;intro c76 X W k));exact bodyPost_ret (zh rfl rfl) rfl ⟨by simp[vu,d2],k.out.end⟩
 ·have d1:decide (64<=m)=false:=decide_eq_false h1
  go_enter Tryz.func29,Tryz.ntmps29;go_wp2_with(first|((with_reducible refine zp ?_);first|go_big_skip)|((with_reducible refine zz ?_);refine ld1 k rfl rfl .a0 (by rfl) ?_)|((with_reducible refine zI ?_);refine bxa k (T:=76) rfl ?_;clear k;intro c76 X W k));exact bodyPost_ret (zh rfl rfl) rfl ⟨by simp[vu,d1],k.out.end⟩
theorem few1_any(A:Option Addr)(n c:Nat)(w:World):Calls Tryz.prog 25 (#[.slice A n c]++ #[]) w fun e w'=>e= .returned (.bool (decide (8<n)))/\Below w.heap.size w w':=by
 go_enter Tryz.func25,Tryz.ntmps25;go_wp2_with fail
 go_ret
 exact⟨by simp;omega,Below.refl _ _⟩
theorem isFn25:Zp Tryz.prog 25:=⟨_,Tryz.func25,by kernel_rfl,by kernel_rfl⟩
theorem part1_any(m a0 a1 a2:Int)(w:World)(hm0: -9223372036854775808<=m)(hm1:m<=9223372036854775807):
  Calls Tryz.prog 28 (#[.agg #[.int .i64 m,.int .i64 a0,.int .i64 a1,.int .i64 a2]]++ #[]) w fun e w'=>e= .returned (.bool (!vu m a0 a1 a2))/\Below w.heap.size w w':=by
 have k:Hid (St (fun _=>False) (fun _=>False) w [] (fun _ _=>True) (fun _=>False) w):=St.begin (fun _ h=>h.elim) trivial xZ;go_enter Tryz.func28,Tryz.ntmps28;go_wp2_with(first|((with_reducible refine zz ?_);refine lda k rfl rfl .a0 (by rfl) ?_)|((with_reducible refine zI ?_);refine bxa k (T:=76) rfl ?_;clear k;intro c76 X W k));refine(part_any m a0 a1 a2 _ hm0 hm1).mono ?_;rintro e W1 ⟨rfl,hb⟩;replace k:=zj (k.out.call hb);clear hb;go_wp2_with fail;exact bodyPost_ret (zh rfl rfl) rfl ⟨rfl,k.out.end⟩
theorem isFn28:Zp Tryz.prog 28:=⟨_,Tryz.func28,by kernel_rfl,by kernel_rfl⟩
theorem pwindow_any(A:Option Addr)(np c:Nat)(fr:Int)(vW vC:Value)(p f l b:Int)(w:World)(hf0: -9223372036854775808<=fr)(hf1:fr<=9223372036854775807)(hl0: -9223372036854775808<=l)(hl1:l<=9223372036854775807):
  Calls Tryz.prog 30 #[.agg (PLC (.slice A np c) fr vW vC),.agg #[.int .i64 p,.int .i64 f,.int .i64 l],.int .i64 b] w fun e w'=>e= .returned (.int .i64 (vk np fr p f l b))/\Below w.heap.size w w':=by
 have k:Hid (St (fun _=>False) (fun _=>False) w [] (fun _ _=>True) (fun _=>False) w):=St.begin (fun _ h=>h.elim) trivial xZ;by_cases h0:p<0
 ·have d0:decide (p<0)=true:=decide_eq_true h0
  go_enter Tryz.func30,Tryz.ntmps30
  go_upto_block 0 with((with_reducible refine zI ?_);first|(refine bxa k (T:=26) rfl ?_;clear k;intro c26 X W k)|(refine bxa k (T:=61) rfl ?_;clear k;intro c61 X W k))
  refine zy (fun Q0 hq0=> ?_);first|(refine wp_seq_k (fun K3 hk3=> ?_);refine zy (fun Q3 hq3=> ?_))|refine zy (fun Q3 hq3=> ?_)
  first|(refine wp_seq_k (fun K2 hk2=> ?_);refine zy (fun Q2 hq2=> ?_))|refine zy (fun Q2 hq2=> ?_)
  first|(refine wp_seq_k (fun K1 hk1=> ?_);refine zy (fun Q1 hq1=> ?_))|refine zy (fun Q1 hq1=> ?_)
  go_wp2_with(first|((with_reducible refine zp ?_);first|go_big_skip)|((with_reducible refine zz ?_);refine ld1 k rfl rfl .a0 (by rfl) ?_));exact bodyPost_ret (zh rfl rfl) rfl ⟨by rw[vk,if_pos (by omega)],k.out.end⟩
 ·have d0:decide (p<0)=false:=decide_eq_false h0
  by_cases h1:(np:Int)<=p
  ·have d1:decide ((np:Int)<=p)=true:=decide_eq_true h1
   go_enter Tryz.func30,Tryz.ntmps30
   go_upto_block 0 with((with_reducible refine zI ?_);first|(refine bxa k (T:=26) rfl ?_;clear k;intro c26 X W k)|(refine bxa k (T:=61) rfl ?_;clear k;intro c61 X W k))
   refine zy (fun Q0 hq0=> ?_);first|(refine wp_seq_k (fun K3 hk3=> ?_);refine zy (fun Q3 hq3=> ?_))|refine zy (fun Q3 hq3=> ?_)
   first|(refine wp_seq_k (fun K2 hk2=> ?_);refine zy (fun Q2 hq2=> ?_))|refine zy (fun Q2 hq2=> ?_)
   first|(refine wp_seq_k (fun K1 hk1=> ?_);refine zy (fun Q1 hq1=> ?_))|refine zy (fun Q1 hq1=> ?_)
   go_wp2_with(first|((with_reducible refine zp ?_);first|refine zg rfl rfl rfl (by with_reducible rfl) ?_)|((with_reducible refine zz ?_);refine ld1 k rfl rfl (by repeat constructor) (by rfl) ?_));exact bodyPost_ret (zh rfl rfl) rfl ⟨by rw[vk,if_pos (by omega)],k.out.end⟩
  ·have d1:decide ((np:Int)<=p)=false:=decide_eq_false h1
   by_cases h2:f<0
   ·have d2:decide (f<0)=true:=decide_eq_true h2
    go_enter Tryz.func30,Tryz.ntmps30
    go_upto_block 0 with((with_reducible refine zI ?_);first|(refine bxa k (T:=26) rfl ?_;clear k;intro c26 X W k)|(refine bxa k (T:=61) rfl ?_;clear k;intro c61 X W k))
    refine zy (fun Q0 hq0=> ?_);first|(refine wp_seq_k (fun K3 hk3=> ?_);refine zy (fun Q3 hq3=> ?_))|refine zy (fun Q3 hq3=> ?_)
    first|(refine wp_seq_k (fun K2 hk2=> ?_);refine zy (fun Q2 hq2=> ?_))|refine zy (fun Q2 hq2=> ?_)
    first|(refine wp_seq_k (fun K1 hk1=> ?_);refine zy (fun Q1 hq1=> ?_))|refine zy (fun Q1 hq1=> ?_)
    go_wp2_with(first|((with_reducible refine zp ?_);first|go_big_skip|refine zg rfl rfl rfl (by with_reducible rfl) ?_)|((with_reducible refine zz ?_);refine ld1 k rfl rfl (by repeat constructor) (by rfl) ?_));exact bodyPost_ret (zh rfl rfl) rfl ⟨by rw[vk,if_pos (by omega)],k.out.end⟩
   ·have d2:decide (f<0)=false:=decide_eq_false h2
    by_cases h3:l<=2
    ·have d3:decide (l<=2)=true:=decide_eq_true h3
     go_enter Tryz.func30,Tryz.ntmps30
     go_upto_block 0 with((with_reducible refine zI ?_);first|(refine bxa k (T:=26) rfl ?_;clear k;intro c26 X W k)|(refine bxa k (T:=61) rfl ?_;clear k;intro c61 X W k))
     refine zy (fun Q0 hq0=> ?_);first|(refine wp_seq_k (fun K3 hk3=> ?_);refine zy (fun Q3 hq3=> ?_))|refine zy (fun Q3 hq3=> ?_)
     first|(refine wp_seq_k (fun K2 hk2=> ?_);refine zy (fun Q2 hq2=> ?_))|refine zy (fun Q2 hq2=> ?_)
     first|(refine wp_seq_k (fun K1 hk1=> ?_);refine zy (fun Q1 hq1=> ?_))|refine zy (fun Q1 hq1=> ?_)
     go_wp2_with(first|((with_reducible refine zp ?_);first|go_big_skip|refine zg rfl rfl rfl (by with_reducible rfl) ?_)|((with_reducible refine zz ?_);refine ld1 k rfl rfl (by repeat constructor) (by rfl) ?_));exact bodyPost_ret (zh rfl rfl) rfl ⟨by rw[vk,if_pos (by omega)],k.out.end⟩
    ·have d3:decide (l<=2)=false:=decide_eq_false h3
     by_cases h4:fr<l
     ·have d4:decide (fr<l)=true:=decide_eq_true h4
      go_enter Tryz.func30,Tryz.ntmps30
      go_upto_block 0 with((with_reducible refine zI ?_);first|(refine bxa k (T:=26) rfl ?_;clear k;intro c26 X W k)|(refine bxa k (T:=61) rfl ?_;clear k;intro c61 X W k))
      refine zy (fun Q0 hq0=> ?_);first|(refine wp_seq_k (fun K3 hk3=> ?_);refine zy (fun Q3 hq3=> ?_))|refine zy (fun Q3 hq3=> ?_)
      first|(refine wp_seq_k (fun K2 hk2=> ?_);refine zy (fun Q2 hq2=> ?_))|refine zy (fun Q2 hq2=> ?_)
      first|(refine wp_seq_k (fun K1 hk1=> ?_);refine zy (fun Q1 hq1=> ?_))|refine zy (fun Q1 hq1=> ?_)
      go_wp2_with(first|((with_reducible refine zp ?_);first|go_big_skip|refine zg rfl rfl rfl (by with_reducible rfl) ?_)|((with_reducible refine zz ?_);refine ld1 k rfl rfl (by repeat constructor) (by rfl) ?_));exact bodyPost_ret (zh rfl rfl) rfl ⟨by rw[vk,if_pos (by omega)],k.out.end⟩
     ·have d4:decide (fr<l)=false:=decide_eq_false h4
      have hww:IntKind.i64.wrap (fr-l)=fr-l:=xg (by omega) (by omega);by_cases h5:fr-l<f
      ·have d5:decide (fr-l<f)=true:=decide_eq_true h5
       go_enter Tryz.func30,Tryz.ntmps30
       go_upto_block 0 with((with_reducible refine zI ?_);first|(refine bxa k (T:=26) rfl ?_;clear k;intro c26 X W k)|(refine bxa k (T:=61) rfl ?_;clear k;intro c61 X W k))
       refine zy (fun Q0 hq0=> ?_);first|(refine wp_seq_k (fun K3 hk3=> ?_);refine zy (fun Q3 hq3=> ?_))|refine zy (fun Q3 hq3=> ?_)
       first|(refine wp_seq_k (fun K2 hk2=> ?_);refine zy (fun Q2 hq2=> ?_))|refine zy (fun Q2 hq2=> ?_)
       first|(refine wp_seq_k (fun K1 hk1=> ?_);refine zy (fun Q1 hq1=> ?_))|refine zy (fun Q1 hq1=> ?_)
       go_wp2_with(first|((with_reducible refine zp ?_);first|refine zg rfl rfl rfl (by with_reducible rfl) ?_)|((with_reducible refine zz ?_);refine ld1 k rfl rfl (by repeat constructor) (by rfl) ?_));exact bodyPost_ret (zh rfl rfl) rfl ⟨by rw[vk,if_pos (by omega)],k.out.end⟩
      ·have d5:decide (fr-l<f)=false:=decide_eq_false h5
       by_cases h7:f<b
       ·have d7:decide (f<b)=true:=decide_eq_true h7
        go_enter Tryz.func30,Tryz.ntmps30
        go_upto_block 0 with((with_reducible refine zI ?_);first|(refine bxa k (T:=26) rfl ?_;clear k;intro c26 X W k)|(refine bxa k (T:=61) rfl ?_;clear k;intro c61 X W k))
        refine zy (fun Q0 hq0=> ?_);first|(refine wp_seq_k (fun K3 hk3=> ?_);refine zy (fun Q3 hq3=> ?_))|refine zy (fun Q3 hq3=> ?_)
        first|(refine wp_seq_k (fun K2 hk2=> ?_);refine zy (fun Q2 hq2=> ?_))|refine zy (fun Q2 hq2=> ?_)
        first|(refine wp_seq_k (fun K1 hk1=> ?_);refine zy (fun Q1 hq1=> ?_))|refine zy (fun Q1 hq1=> ?_)
        go_wp2_with(first|((with_reducible refine zp ?_);first|refine zg rfl rfl rfl (by with_reducible rfl) ?_)|((with_reducible refine zz ?_);refine ld1 k rfl rfl (by repeat constructor) (by rfl) ?_));exact bodyPost_ret (zh rfl rfl) rfl ⟨by rw[vk,if_neg (by omega),if_pos h7],k.out.end⟩
       ·have d7:decide (f<b)=false:=decide_eq_false h7
        go_enter Tryz.func30,Tryz.ntmps30
        go_upto_block 0 with((with_reducible refine zI ?_);first|(refine bxa k (T:=26) rfl ?_;clear k;intro c26 X W k)|(refine bxa k (T:=61) rfl ?_;clear k;intro c61 X W k))
        refine zy (fun Q0 hq0=> ?_);first|(refine wp_seq_k (fun K3 hk3=> ?_);refine zy (fun Q3 hq3=> ?_))|refine zy (fun Q3 hq3=> ?_)
        first|(refine wp_seq_k (fun K2 hk2=> ?_);refine zy (fun Q2 hq2=> ?_))|refine zy (fun Q2 hq2=> ?_)
        first|(refine wp_seq_k (fun K1 hk1=> ?_);refine zy (fun Q1 hq1=> ?_))|refine zy (fun Q1 hq1=> ?_)
        go_wp2_with(first|((with_reducible refine zp ?_);first|refine zg rfl rfl rfl (by with_reducible rfl) ?_)|((with_reducible refine zz ?_);refine ld1 k rfl rfl (by repeat constructor) (by rfl) ?_));exact bodyPost_ret (zh rfl rfl) rfl ⟨by rw[vk,if_neg (by omega),if_neg (by omega)],k.out.end⟩
def jO(np f t:Int):Bool:=decide (0<=f/\f<np/\0<=t/\t<np/\f≠t)
theorem chan_any(A:Option Addr)(np c:Nat)(fr:Int)(vW vC:Value)(k0 f t s d:Int)(w:World):
  Calls Tryz.prog 33 #[.agg (PLC (.slice A np c) fr vW vC),.agg #[.int .i64 k0,.int .i64 f,.int .i64 t,.int .i64 s,.int .i64 d]] w fun e w'=>e= .returned (.bool (qv np k0 f t s d))/\Below w.heap.size w w':=by
 have k:Hid (St (fun _=>False) (fun _=>False) w [] (fun _ _=>True) (fun _=>False) w):=St.begin (fun _ h=>h.elim) trivial xZ;by_cases hk1:k0=1
 ·subst hk1
  go_enter Tryz.func33,Tryz.ntmps33
  go_upto_region 4 with(first|((with_reducible refine zz ?_);refine ld1 k rfl rfl .a0 (by rfl) ?_)|((with_reducible refine zI ?_);first|(refine bxa k (T:=26) rfl ?_;clear k;intro c26 X W k)|(refine bxa k (T:=87) rfl ?_;clear k;intro c87 X W k)))
  try simp only[Act.put,tS,t0,t1]
  go_cut [6] from 10 to 40 (fun s6 wx=>s6= .bool (jO np f t)/\Hid (St (fun _=>False) (fun _=>False) w [(c87,#[.int .i64 1,.int .i64 f,.int .i64 t,.int .i64 s,.int .i64 d],87),(c26,PLC (.slice A np c) fr vW vC,26)] (fun _ _=>True) _ wx))
  case first=>
   by_cases h0:0<=f
   ·have d0:decide (0<=f)=true:=decide_eq_true h0
    by_cases h1:f<(np:Int)
    ·have d1:decide (f<(np:Int))=true:=decide_eq_true h1
     by_cases h2:0<=t
     ·have d2:decide (0<=t)=true:=decide_eq_true h2
      by_cases h3:t<(np:Int)
      ·have d3:decide (t<(np:Int))=true:=decide_eq_true h3
       by_cases h5:f=t
       ·have d5:(f !=t)=false:=by rw[bne_eq_false_iff_eq];exact h5
        have he:jO np f t=false:=decide_eq_false (by omega);clear h5;go_wp2_with(first|((with_reducible refine zp ?_);first|refine zg rfl rfl rfl (by with_reducible rfl) ?_)|((with_reducible refine zz ?_);refine ld1 k rfl rfl (by repeat constructor) (by rfl) ?_))
        go_meet
        exact⟨by first|rw[he,d5]|rw[he],k⟩
       ·have d5:(f !=t)=true:=by rw[bne_iff_ne];exact h5
        have he:jO np f t=true:=decide_eq_true (by omega);clear h5;go_wp2_with(first|((with_reducible refine zp ?_);first|refine zg rfl rfl rfl (by with_reducible rfl) ?_)|((with_reducible refine zz ?_);refine ld1 k rfl rfl (by repeat constructor) (by rfl) ?_))
        go_meet
        exact⟨by first|rw[he,d5]|rw[he],k⟩
      ·have d3:decide (t<(np:Int))=false:=decide_eq_false h3
       have he:jO np f t=false:=decide_eq_false (by omega);go_wp2_with(first|((with_reducible refine zp ?_);first|go_big_skip|refine zg rfl rfl rfl (by with_reducible rfl) ?_)|((with_reducible refine zz ?_);refine ld1 k rfl rfl (by repeat constructor) (by rfl) ?_))
       go_meet
       exact⟨by rw[he],k⟩
     ·have d2:decide (0<=t)=false:=decide_eq_false h2
      have he:jO np f t=false:=decide_eq_false (by omega);go_wp2_with(first|((with_reducible refine zp ?_);first|go_big_skip|refine zg rfl rfl rfl (by with_reducible rfl) ?_)|((with_reducible refine zz ?_);refine ld1 k rfl rfl (by repeat constructor) (by rfl) ?_))
      go_meet
      exact⟨by rw[he],k⟩
    ·have d1:decide (f<(np:Int))=false:=decide_eq_false h1
     have he:jO np f t=false:=decide_eq_false (by omega);go_wp2_with(first|((with_reducible refine zp ?_);first|go_big_skip|refine zg rfl rfl rfl (by with_reducible rfl) ?_)|((with_reducible refine zz ?_);refine ld1 k rfl rfl (by repeat constructor) (by rfl) ?_))
     go_meet
     exact⟨by rw[he],k⟩
   ·have d0:decide (0<=f)=false:=decide_eq_false h0
    have he:jO np f t=false:=decide_eq_false (by omega);go_wp2_with(first|((with_reducible refine zp ?_);first|go_big_skip)|((with_reducible refine zz ?_);refine ld1 k rfl rfl .a0 (by rfl) ?_))
    go_meet
    exact⟨by rw[he],k⟩
  case rest=>
  obtain⟨rfl,k2⟩:=hcut;clear k;have k:=k2;clear k2;by_cases he:0<=f/\f<(np:Int)/\0<=t/\t<(np:Int)/\f≠t
  ·have e6:jO np f t=true:=decide_eq_true he
   rw[e6];by_cases h0:1<=s
   ·have d0:decide (1<=s)=true:=decide_eq_true h0
    by_cases h1:s<=32
    ·have d1:decide (s<=32)=true:=decide_eq_true h1
     by_cases h2:1<=d
     ·have d2:decide (1<=d)=true:=decide_eq_true h2
      by_cases h3:d<=1
      ·have d3:decide (d<=1)=true:=decide_eq_true h3
       go_wp2_with(first|((with_reducible refine zp ?_);first|go_big_skip|refine zg rfl rfl rfl (by with_reducible rfl) ?_)|((with_reducible refine zz ?_);refine ld1 k rfl rfl .a0 (by rfl) ?_));exact bodyPost_ret (zh rfl rfl) rfl ⟨by rw[qv,decide_eq_true (by omega)],k.out.end⟩
      ·have d3:decide (d<=1)=false:=decide_eq_false h3
       go_wp2_with(first|((with_reducible refine zp ?_);first|go_big_skip|refine zg rfl rfl rfl (by with_reducible rfl) ?_)|((with_reducible refine zz ?_);refine ld1 k rfl rfl .a0 (by rfl) ?_));exact bodyPost_ret (zh rfl rfl) rfl ⟨by rw[qv,decide_eq_false (by omega)],k.out.end⟩
     ·have d2:decide (1<=d)=false:=decide_eq_false h2
      go_wp2_with(first|((with_reducible refine zp ?_);first|go_big_skip|refine zg rfl rfl rfl (by with_reducible rfl) ?_)|((with_reducible refine zz ?_);refine ld1 k rfl rfl .a0 (by rfl) ?_));exact bodyPost_ret (zh rfl rfl) rfl ⟨by rw[qv,decide_eq_false (by omega)],k.out.end⟩
    ·have d1:decide (s<=32)=false:=decide_eq_false h1
     go_wp2_with(first|((with_reducible refine zp ?_);first|go_big_skip|refine zg rfl rfl rfl (by with_reducible rfl) ?_)|((with_reducible refine zz ?_);refine ld1 k rfl rfl .a0 (by rfl) ?_));exact bodyPost_ret (zh rfl rfl) rfl ⟨by rw[qv,decide_eq_false (by omega)],k.out.end⟩
   ·have d0:decide (1<=s)=false:=decide_eq_false h0
    go_wp2_with(first|((with_reducible refine zp ?_);first|go_big_skip|refine zg rfl rfl rfl (by with_reducible rfl) ?_)|((with_reducible refine zz ?_);refine ld1 k rfl rfl .a0 (by rfl) ?_));exact bodyPost_ret (zh rfl rfl) rfl ⟨by rw[qv,decide_eq_false (by omega)],k.out.end⟩
  ·have e6:jO np f t=false:=decide_eq_false he
   rw[e6];go_wp2_with(first|((with_reducible refine zp ?_);first|go_big_skip)|((with_reducible refine zz ?_);refine ld1 k rfl rfl .a0 (by rfl) ?_));exact bodyPost_ret (zh rfl rfl) rfl ⟨by rw[qv,decide_eq_false (by omega)],k.out.end⟩
 ·have dk1:(k0==1)=false:=by rw[beq_eq_false_iff_ne];exact hk1
  by_cases hk2:k0=2
  ·subst hk2
   go_enter Tryz.func33,Tryz.ntmps33
   go_upto_region 4 with(first|((with_reducible refine zz ?_);refine ld1 k rfl rfl .a0 (by rfl) ?_)|((with_reducible refine zI ?_);first|(refine bxa k (T:=26) rfl ?_;clear k;intro c26 X W k)|(refine bxa k (T:=87) rfl ?_;clear k;intro c87 X W k)))
   try simp only[Act.put,tS,t0,t1]
   go_cut [6] from 10 to 40 (fun s6 wx=>s6= .bool (jO np f t)/\Hid (St (fun _=>False) (fun _=>False) w [(c87,#[.int .i64 2,.int .i64 f,.int .i64 t,.int .i64 s,.int .i64 d],87),(c26,PLC (.slice A np c) fr vW vC,26)] (fun _ _=>True) _ wx))
   case first=>
    by_cases h0:0<=f
    ·have d0:decide (0<=f)=true:=decide_eq_true h0
     by_cases h1:f<(np:Int)
     ·have d1:decide (f<(np:Int))=true:=decide_eq_true h1
      by_cases h2:0<=t
      ·have d2:decide (0<=t)=true:=decide_eq_true h2
       by_cases h3:t<(np:Int)
       ·have d3:decide (t<(np:Int))=true:=decide_eq_true h3
        by_cases h5:f=t
        ·have d5:(f !=t)=false:=by rw[bne_eq_false_iff_eq];exact h5
         have he:jO np f t=false:=decide_eq_false (by omega);clear h5;go_wp2_with(first|((with_reducible refine zp ?_);first|refine zg rfl rfl rfl (by with_reducible rfl) ?_)|((with_reducible refine zz ?_);refine ld1 k rfl rfl (by repeat constructor) (by rfl) ?_))
         go_meet
         exact⟨by first|rw[he,d5]|rw[he],k⟩
        ·have d5:(f !=t)=true:=by rw[bne_iff_ne];exact h5
         have he:jO np f t=true:=decide_eq_true (by omega);clear h5;go_wp2_with(first|((with_reducible refine zp ?_);first|refine zg rfl rfl rfl (by with_reducible rfl) ?_)|((with_reducible refine zz ?_);refine ld1 k rfl rfl (by repeat constructor) (by rfl) ?_))
         go_meet
         exact⟨by first|rw[he,d5]|rw[he],k⟩
       ·have d3:decide (t<(np:Int))=false:=decide_eq_false h3
        have he:jO np f t=false:=decide_eq_false (by omega);go_wp2_with(first|((with_reducible refine zp ?_);first|go_big_skip|refine zg rfl rfl rfl (by with_reducible rfl) ?_)|((with_reducible refine zz ?_);refine ld1 k rfl rfl (by repeat constructor) (by rfl) ?_))
        go_meet
        exact⟨by rw[he],k⟩
      ·have d2:decide (0<=t)=false:=decide_eq_false h2
       have he:jO np f t=false:=decide_eq_false (by omega);go_wp2_with(first|((with_reducible refine zp ?_);first|go_big_skip|refine zg rfl rfl rfl (by with_reducible rfl) ?_)|((with_reducible refine zz ?_);refine ld1 k rfl rfl (by repeat constructor) (by rfl) ?_))
       go_meet
       exact⟨by rw[he],k⟩
     ·have d1:decide (f<(np:Int))=false:=decide_eq_false h1
      have he:jO np f t=false:=decide_eq_false (by omega);go_wp2_with(first|((with_reducible refine zp ?_);first|go_big_skip|refine zg rfl rfl rfl (by with_reducible rfl) ?_)|((with_reducible refine zz ?_);refine ld1 k rfl rfl (by repeat constructor) (by rfl) ?_))
      go_meet
      exact⟨by rw[he],k⟩
    ·have d0:decide (0<=f)=false:=decide_eq_false h0
     have he:jO np f t=false:=decide_eq_false (by omega);go_wp2_with(first|((with_reducible refine zp ?_);first|go_big_skip)|((with_reducible refine zz ?_);refine ld1 k rfl rfl .a0 (by rfl) ?_))
     go_meet
     exact⟨by rw[he],k⟩
   case rest=>
   obtain⟨rfl,k2⟩:=hcut;clear k;have k:=k2;clear k2;by_cases he:0<=f/\f<(np:Int)/\0<=t/\t<(np:Int)/\f≠t
   ·have e6:jO np f t=true:=decide_eq_true he
    rw[e6];by_cases h0:1<=s
    ·have d0:decide (1<=s)=true:=decide_eq_true h0
     by_cases h1:s<=32
     ·have d1:decide (s<=32)=true:=decide_eq_true h1
      by_cases h2:1<=d
      ·have d2:decide (1<=d)=true:=decide_eq_true h2
       by_cases h3:d<=8
       ·have d3:decide (d<=8)=true:=decide_eq_true h3
        go_wp2_with(first|((with_reducible refine zp ?_);first|refine zg rfl rfl rfl (by with_reducible rfl) ?_)|((with_reducible refine zz ?_);refine ld1 k rfl rfl .a0 (by rfl) ?_));exact bodyPost_ret (zh rfl rfl) rfl ⟨by rw[qv,decide_eq_true (by omega)],k.out.end⟩
       ·have d3:decide (d<=8)=false:=decide_eq_false h3
        go_wp2_with(first|((with_reducible refine zp ?_);first|refine zg rfl rfl rfl (by with_reducible rfl) ?_)|((with_reducible refine zz ?_);refine ld1 k rfl rfl .a0 (by rfl) ?_));exact bodyPost_ret (zh rfl rfl) rfl ⟨by rw[qv,decide_eq_false (by omega)],k.out.end⟩
      ·have d2:decide (1<=d)=false:=decide_eq_false h2
       go_wp2_with(first|((with_reducible refine zp ?_);first|go_big_skip|refine zg rfl rfl rfl (by with_reducible rfl) ?_)|((with_reducible refine zz ?_);refine ld1 k rfl rfl .a0 (by rfl) ?_));exact bodyPost_ret (zh rfl rfl) rfl ⟨by rw[qv,decide_eq_false (by omega)],k.out.end⟩
     ·have d1:decide (s<=32)=false:=decide_eq_false h1
      go_wp2_with(first|((with_reducible refine zp ?_);first|go_big_skip|refine zg rfl rfl rfl (by with_reducible rfl) ?_)|((with_reducible refine zz ?_);refine ld1 k rfl rfl .a0 (by rfl) ?_));exact bodyPost_ret (zh rfl rfl) rfl ⟨by rw[qv,decide_eq_false (by omega)],k.out.end⟩
    ·have d0:decide (1<=s)=false:=decide_eq_false h0
     go_wp2_with(first|((with_reducible refine zp ?_);first|go_big_skip|refine zg rfl rfl rfl (by with_reducible rfl) ?_)|((with_reducible refine zz ?_);refine ld1 k rfl rfl .a0 (by rfl) ?_));exact bodyPost_ret (zh rfl rfl) rfl ⟨by rw[qv,decide_eq_false (by omega)],k.out.end⟩
   ·have e6:jO np f t=false:=decide_eq_false he
    rw[e6];go_wp2_with(first|((with_reducible refine zp ?_);first|go_big_skip|refine zg rfl rfl rfl (by with_reducible rfl) ?_)|((with_reducible refine zz ?_);refine ld1 k rfl rfl .a0 (by rfl) ?_));exact bodyPost_ret (zh rfl rfl) rfl ⟨by rw[qv,decide_eq_false (by omega)],k.out.end⟩
  ·have dk2:(k0==2)=false:=by rw[beq_eq_false_iff_ne];exact hk2
   go_enter Tryz.func33,Tryz.ntmps33
   go_upto_region 4 with(first|((with_reducible refine zz ?_);refine ld1 k rfl rfl .a0 (by rfl) ?_)|((with_reducible refine zI ?_);first|(refine bxa k (T:=26) rfl ?_;clear k;intro c26 X W k)|(refine bxa k (T:=87) rfl ?_;clear k;intro c87 X W k)))
   try simp only[Act.put,tS,t0,t1]
   go_cut [6] from 10 to 40 (fun s6 wx=>s6= .bool (jO np f t)/\Hid (St (fun _=>False) (fun _=>False) w [(c87,#[.int .i64 k0,.int .i64 f,.int .i64 t,.int .i64 s,.int .i64 d],87),(c26,PLC (.slice A np c) fr vW vC,26)] (fun _ _=>True) _ wx))
   case first=>
    by_cases h0:0<=f
    ·have d0:decide (0<=f)=true:=decide_eq_true h0
     by_cases h1:f<(np:Int)
     ·have d1:decide (f<(np:Int))=true:=decide_eq_true h1
      by_cases h2:0<=t
      ·have d2:decide (0<=t)=true:=decide_eq_true h2
       by_cases h3:t<(np:Int)
       ·have d3:decide (t<(np:Int))=true:=decide_eq_true h3
        by_cases h5:f=t
        ·have d5:(f !=t)=false:=by rw[bne_eq_false_iff_eq];exact h5
         have he:jO np f t=false:=decide_eq_false (by omega);clear h5;go_wp2_with(first|((with_reducible refine zp ?_);first|refine zg rfl rfl rfl (by with_reducible rfl) ?_)|((with_reducible refine zz ?_);refine ld1 k rfl rfl (by repeat constructor) (by rfl) ?_))
         go_meet
         exact⟨by first|rw[he,d5]|rw[he],k⟩
        ·have d5:(f !=t)=true:=by rw[bne_iff_ne];exact h5
         have he:jO np f t=true:=decide_eq_true (by omega);clear h5;go_wp2_with(first|((with_reducible refine zp ?_);first|refine zg rfl rfl rfl (by with_reducible rfl) ?_)|((with_reducible refine zz ?_);refine ld1 k rfl rfl (by repeat constructor) (by rfl) ?_))
         go_meet
         exact⟨by first|rw[he,d5]|rw[he],k⟩
       ·have d3:decide (t<(np:Int))=false:=decide_eq_false h3
        have he:jO np f t=false:=decide_eq_false (by omega);go_wp2_with(first|((with_reducible refine zp ?_);first|go_big_skip|refine zg rfl rfl rfl (by with_reducible rfl) ?_)|((with_reducible refine zz ?_);refine ld1 k rfl rfl (by repeat constructor) (by rfl) ?_))
        go_meet
        exact⟨by rw[he],k⟩
      ·have d2:decide (0<=t)=false:=decide_eq_false h2
       have he:jO np f t=false:=decide_eq_false (by omega);go_wp2_with(first|((with_reducible refine zp ?_);first|go_big_skip|refine zg rfl rfl rfl (by with_reducible rfl) ?_)|((with_reducible refine zz ?_);refine ld1 k rfl rfl (by repeat constructor) (by rfl) ?_))
       go_meet
       exact⟨by rw[he],k⟩
     ·have d1:decide (f<(np:Int))=false:=decide_eq_false h1
      have he:jO np f t=false:=decide_eq_false (by omega);go_wp2_with(first|((with_reducible refine zp ?_);first|go_big_skip|refine zg rfl rfl rfl (by with_reducible rfl) ?_)|((with_reducible refine zz ?_);refine ld1 k rfl rfl (by repeat constructor) (by rfl) ?_))
      go_meet
      exact⟨by rw[he],k⟩
    ·have d0:decide (0<=f)=false:=decide_eq_false h0
     have he:jO np f t=false:=decide_eq_false (by omega);go_wp2_with(first|((with_reducible refine zp ?_);first|go_big_skip)|((with_reducible refine zz ?_);refine ld1 k rfl rfl .a0 (by rfl) ?_))
     go_meet
     exact⟨by rw[he],k⟩
   case rest=>
   obtain⟨rfl,k2⟩:=hcut;clear k;have k:=k2;clear k2;go_wp2_with(first|((with_reducible refine zp ?_);first|go_big_skip|refine zg rfl rfl rfl (by with_reducible rfl) ?_)|((with_reducible refine zz ?_);refine ld1 k rfl rfl .a0 (by rfl) ?_));exact bodyPost_ret (zh rfl rfl) rfl ⟨by rw[qv,decide_eq_false (by omega)],k.out.end⟩
def WinsG(lW:List (Array Value))(wl:List (List (Array Value)))(X:Nat->Prop)(W:World):Prop:=
 lW.length=wl.length/\ ∀i:Nat,∀r:Array Value,∀l:List (Array Value),lW[i]? =some r->wl[i]? =some l-> ∃A:Option Addr,∃c:Nat,(r= #[.slice A l.length c])/\Sl 3 (.slice A l.length c) l X W
theorem per_wins(lW:List (Array Value))(wl:List (List (Array Value))):Per (WinsG lW wl):=
 (Zh _).and (Per.all fun _=>Per.all fun _=>Per.all fun _=>Per.imp (Per.imp (Per.ex fun _=>Per.ex fun _=>(Zh _).and (zb _ _ _))))
def vw(vP:Value)(lP:List (Array Value))(vW:Value)(lW:List (Array Value))(wl:List (List (Array Value)))(vC:Value)(lC:List (Array Value))(X:Nat->Prop)(W:World):Prop:=
 Sl 4 vP lP X W/\Sl 1 vW lW X W/\WinsG lW wl X W/\Sl 5 vC lC X W
theorem gV(vP:Value)(lP:List (Array Value))(vW:Value)(lW:List (Array Value))(wl:List (List (Array Value)))(vC:Value)(lC:List (Array Value)):Per (vw vP lP vW lW wl vC lC):=
 (zb _ _ _).and ((zb _ _ _).and ((per_wins _ _).and (zb _ _ _)))
structure ZJ (lP:List (Array Value)) (wl:List (List (Array Value))) (lC:List (Array Value)):Prop where
 P: ∀r∈lP,Ty kPart r
 W: ∀l∈wl,∀r∈l,Ty kWin r
 C: ∀r∈lC,Ty gx r
 Pl:lP.length<=2000000
 Wl:wl.length<=2000000
 Cl:lC.length<=2000000
 wl: ∀l∈wl,l.length<=2000000
def gv(r:Array Value):Bool:=vu (zQ r 0) (zQ r 1) (zQ r 2) (zQ r 3)
def qI(np:Nat)(r:Array Value):Bool:=qv np (zQ r 0) (zQ r 1) (zQ r 2) (zQ r 3) (zQ r 4)
def wsE(np:Nat)(fr:Int):Int->List (Array Value)->Int
 |_,[]=>0
 |b,r::l=>if vk np fr (zQ r 0) (zQ r 1) (zQ r 2) b≠0 then vk np fr (zQ r 0) (zQ r 1) (zQ r 2) b else wsE np fr (zQ r 1+zQ r 2) l
def jY(np:Nat)(fr:Int):List (List (Array Value))->Int
 |[]=>0
 |l::ls=>if wsE np fr 0 l≠0 then wsE np fr 0 l else jY np fr ls
def yv(fr:Int)(lP:List (Array Value))(wl:List (List (Array Value)))(lC:List (Array Value)):Int:=
 if 4<lP.length\/3<wl.length\/6<lC.length\/wl.any (fun l=>decide (8<l.length))=true then 4
 else if lP.length=0\/wl.length=0 then 1
 else if lP.any (fun r=> !gv r)=true\/fr<1\/4096<fr then 1
 else if jY lP.length fr wl≠0 then jY lP.length fr wl
 else if lC.any (fun r=> !qI lP.length r)=true then 1 else 0
theorem part_lit{r:Array Value}(h:Ty kPart r): ∃a b c d:Int,r= #[.int .i64 a,.int .i64 b,.int .i64 c,.int .i64 d]/\ -9223372036854775808<=a/\a<=9223372036854775807:=by
 obtain⟨l⟩:=r;have h0:TyL kPart l:=h;unfold kPart at h0;obtain⟨_,l0,rfl,⟨a,rfl,ha⟩,h1⟩:=yq h0;obtain⟨_,l1,rfl,⟨b,rfl,hb⟩,h2⟩:=yq h1;obtain⟨_,l2,rfl,⟨c,rfl,hc⟩,h3⟩:=yq h2;obtain⟨_,l3,rfl,⟨d,rfl,hd⟩,h5⟩:=yq h3;obtain rfl:=gE h5;exact⟨a,b,c,d,rfl,ha⟩
theorem win_lit{r:Array Value}(h:Ty kWin r): ∃a b c:Int,r= #[.int .i64 a,.int .i64 b,.int .i64 c]/\(-9223372036854775808<=c/\c<=9223372036854775807):=by
 obtain⟨l⟩:=r;have h0:TyL kWin l:=h;unfold kWin at h0;obtain⟨_,l0,rfl,⟨a,rfl,ha⟩,h1⟩:=yq h0;obtain⟨_,l1,rfl,⟨b,rfl,hb⟩,h2⟩:=yq h1;obtain⟨_,l2,rfl,⟨c,rfl,hc⟩,h3⟩:=yq h2;obtain rfl:=gE h3;exact⟨a,b,c,rfl,hc⟩
theorem WinsG.at{lW:List (Array Value)}{wl:List (List (Array Value))}{X:Nat->Prop}{W:World}(h:WinsG lW wl X W){i:Nat}{A:Option Addr}{c:Nat}{l:List (Array Value)}(hr:lW[i]? =some #[.slice A l.length c])(hl:wl[i]? =some l):Sl 3 (.slice A l.length c) l X W:=by
 obtain⟨A',c',e,hs⟩:=h.2 i _ l hr hl;injection e with e;injection e with e _;rw[e];exact hs
def lenV(r:Array Value):Nat:=match r[0]? with|some (Value.slice _ n _)=>n|_=>0
theorem wins_any{lW:List (Array Value)}{wl:List (List (Array Value))}{X:Nat->Prop}{W:World}(h:WinsG lW wl X W):lW.any (fun r=>decide (8<lenV r))=wl.any (fun l=>decide (8<l.length)):=by
 obtain⟨hl,h⟩:=h;induction lW generalizing wl with
 |nil=>cases wl with
  |nil=>rfl
  |cons l wl=>simp at hl
 |cons r lW ih=>cases wl with
  |nil=>simp at hl
  |cons l wl=>
   obtain⟨A,c,rfl,_⟩:=h 0 r l rfl rfl;simp only[List.any_cons];rw[ih (by simpa using hl) (fun i r' l' h1 h2=>h (i+1) r' l' (by simpa using h1) (by simpa using h2))];rfl
theorem Only.same{b:Nat}{w w':World}{C:Array Value}{T:TypeId}(ho:Only (fun k=>k=b) w w')(hw:Blk w b C T)(hk:Blk w' b C T):Below w.heap.size w w':=
 ⟨ho.os,ho.tape,ho.output,ho.size,fun k hlt=>by
  by_cases h:k=b
  ·subst h
   exact hk.trans hw.symm
  ·exact ho.block k hlt h⟩
theorem chan1_any(A:Option Addr)(np c:Nat)(fr:Int)(vW vC:Value)(r:Array Value)(hr:Ty gx r)(b:Nat)(V:World)(hk:Blk V b (PLC (.slice A np c) fr vW vC) 26):
  Calls Tryz.prog 32 (#[.agg r]++ #[.pointer (some ⟨b,0,none⟩)]) V fun e W'=>e= .returned (.bool (!qI np r))/\Below V.heap.size V W':=by
 obtain⟨k0,f,t,s,d,rfl⟩:=ZX hr;have k:Hid (St (fun k=>k=b) (fun k=>k=b) V [(b,PLC (.slice A np c) fr vW vC,26)] (fun _ _=>True) (fun k=>k=b) V):=St.begin1 (fun x hx=>(by rw[hx];exact hk.lt)) rfl hk trivial xZ;have HK:=Lib.hid hk;clear hr hk;go_enter Tryz.func32,Tryz.ntmps32;go_wp2_with(first|((with_reducible refine zz ?_);refine lda k rfl rfl (by repeat constructor) (by rfl) ?_)|((with_reducible refine zI ?_);refine bxa k (T:=87) rfl ?_;clear k;intro c87 X W k));refine(chan_any A np c fr vW vC k0 f t s d _).mono ?_;rintro e W1 ⟨rfl,hb⟩;replace k:=zj (k.out.call hb);clear hb;go_wp2_with fail;exact bodyPost_ret (zh rfl rfl) rfl ⟨rfl,k.out.only.same HK.out (k.out.blk (i:=1) rfl)⟩
theorem isFn32:Zp Tryz.prog 32:=⟨_,Tryz.func32,by kernel_rfl,by kernel_rfl⟩
theorem wsE_step{np:Nat}{fr b:Int}{l:List (Array Value)}{j:Nat}{r:Array Value}(h:l[j]? =some r):wsE np fr b (l.drop j)=(if vk np fr (zQ r 0) (zQ r 1) (zQ r 2) b≠0 then vk np fr (zQ r 0) (zQ r 1) (zQ r 2) b else wsE np fr (zQ r 1+zQ r 2) (l.drop (j+1))):=by
 have hj:j<l.length:=(List.getElem?_eq_some_iff.1 h).1;have e:l.drop j=r::l.drop (j+1):=by
  rw[List.drop_eq_getElem_cons hj];congr 1;exact(List.getElem?_eq_some_iff.1 h).2
 rw[e,wsE]
theorem wssE_step{np:Nat}{fr:Int}{ls:List (List (Array Value))}{j:Nat}{l:List (Array Value)}(h:ls[j]? =some l):jY np fr (ls.drop j)=(if wsE np fr 0 l≠0 then wsE np fr 0 l else jY np fr (ls.drop (j+1))):=by
 have hj:j<ls.length:=(List.getElem?_eq_some_iff.1 h).1;have e:ls.drop j=l::ls.drop (j+1):=by
  rw[List.drop_eq_getElem_cons hj];congr 1;exact(List.getElem?_eq_some_iff.1 h).2
 rw[e,jY]
theorem winE_ok{np:Nat}{fr p f l b:Int}(h:vk np fr p f l b=0):0<=p/\p<np/\0<=f/\2<l/\l<=fr/\f<=fr-l/\b<=f:=by
 unfold vk at h;split at h
 ·cases h
 ·split at h
  ·cases h
  ·omega
theorem pcheck_any(vP:Value)(lP:List (Array Value))(fr:Int)(vW:Value)(lW:List (Array Value))(wl:List (List (Array Value)))(vC:Value)(lC:List (Array Value))(X0:Nat->Prop)(w:World)(hX: ∀b,X0 b->b<w.heap.size)(hG:vw vP lP vW lW wl vC lC X0 w)(hT:ZJ lP wl lC)(hf0: -9223372036854775808<=fr)(hf1:fr<=9223372036854775807):
  Calls Tryz.prog 13 #[.agg (PLC vP fr vW vC)] w fun e w'=>e= .returned (.int .i64 (yv fr lP wl lC))/\Below w.heap.size w w':=by
 have hwl:=hG.2.2.1.1;obtain⟨AP,cP,rfl,_,_⟩:=hG.1.len;obtain⟨AW,cW,eW,_,_⟩:=hG.2.1.len;rw[hwl] at eW;subst eW;obtain⟨AC,cC,rfl,_,_⟩:=hG.2.2.2.len;have k:Hid (St (fun _=>False) X0 w [] (vw (.slice AP lP.length cP) lP (.slice AW wl.length cW) lW wl (.slice AC lC.length cC) lC) X0 w):=St.begin hX hG (gV _ _ _ _ _ _ _);have HT:=Lib.hid hT;have HWL:=Lib.hid hwl;have hPl:=hT.Pl;have hWl:=hT.Wl;have hCl:=hT.Cl;clear hG hT hwl;by_cases c1:4<lP.length
 ·have d1:decide ((4:Int)<lP.length)=true:=decide_eq_true (by omega)
  go_enter Tryz.func13,Tryz.ntmps13;go_wp2_with(first|((with_reducible refine zp ?_);first|go_big_skip)|((with_reducible refine zz ?_);refine ld1 k rfl rfl .a0 (by rfl) ?_)|((with_reducible refine zI ?_);refine bxa k (T:=26) rfl ?_;clear k;intro c26 X W k));exact bodyPost_ret (zh rfl rfl) rfl ⟨by rw[yv,if_pos (.inl c1)],k.out.end⟩
 have d1:decide ((4:Int)<lP.length)=false:=decide_eq_false (by omega);have n1:(lP.length:Int)<=4:=by omega
 by_cases c2:3<wl.length
 ·have d2:decide ((3:Int)<wl.length)=true:=decide_eq_true (by omega)
  go_enter Tryz.func13,Tryz.ntmps13;go_wp2_with(first|((with_reducible refine zp ?_);first|go_big_skip|refine zg rfl rfl rfl (by with_reducible rfl) ?_)|((with_reducible refine zz ?_);refine ld1 k rfl rfl .a0 (by rfl) ?_)|((with_reducible refine zI ?_);refine bxa k (T:=26) rfl ?_;clear k;intro c26 X W k));exact bodyPost_ret (zh rfl rfl) rfl ⟨by rw[yv,if_pos (.inr (.inl c2))],k.out.end⟩
 have d2:decide ((3:Int)<wl.length)=false:=decide_eq_false (by omega);have n2:(wl.length:Int)<=3:=by omega
 by_cases c3:6<lC.length
 ·have d3:decide ((6:Int)<lC.length)=true:=decide_eq_true (by omega)
  go_enter Tryz.func13,Tryz.ntmps13;go_wp2_with(first|((with_reducible refine zp ?_);first|go_big_skip|refine zg rfl rfl rfl (by with_reducible rfl) ?_)|((with_reducible refine zz ?_);refine ld1 k rfl rfl .a0 (by rfl) ?_)|((with_reducible refine zI ?_);refine bxa k (T:=26) rfl ?_;clear k;intro c26 X W k));exact bodyPost_ret (zh rfl rfl) rfl ⟨by rw[yv,if_pos (.inr (.inr (.inl c3)))],k.out.end⟩
 have d3:decide ((6:Int)<lC.length)=false:=decide_eq_false (by omega);have n3:(lC.length:Int)<=6:=by omega
 go_enter Tryz.func13,Tryz.ntmps13;go_wp2_with(first|((with_reducible refine zp ?_);first|refine zg rfl rfl rfl (by with_reducible rfl) ?_)|((with_reducible refine zz ?_);refine ld1 k rfl rfl .a0 (by rfl) ?_)|((with_reducible refine zI ?_);refine bxa k (T:=26) rfl ?_;clear k;intro c26 X W k));refine(hasWin_any _ lW _ (fun r=>decide (8<lenV r)) _ _ k.out.fact.2.1 _ (Nat.le_refl _) ⟨25,#[],rfl,isFn25,fun r hr W' hW'=> ?_⟩).mono ?_
 ·obtain⟨i,hi⟩:=List.getElem?_of_mem hr
  have hi':i<wl.length:=by rw[<-HWL.out];exact(List.getElem?_eq_some_iff.1 hi).1
  obtain⟨A,c,rfl,_⟩:=k.out.fact.2.2.1.2 i r _ hi (List.getElem?_eq_getElem hi');exact few1_any A _ c W'
 rintro e W1 ⟨rfl,hb⟩;rw[idxOf_any,wins_any k.out.fact.2.2.1];replace k:=zj (k.out.call hb);clear hb;cases hany:wl.any (fun l=>decide (8<l.length)) with
 |true=>
  go_wp2_with fail;exact bodyPost_ret (zh rfl rfl) rfl ⟨by rw[yv,if_pos (.inr (.inr (.inr hany)))],k.out.end⟩
 |false=>
 have hbig: ¬(4<lP.length\/3<wl.length\/6<lC.length\/wl.any (fun l=>decide (8<l.length))=true):=by
  rw[hany];rintro(h|h|h|h)
  ·exact c1 h
  ·exact c2 h
  ·exact c3 h
  ·cases h
 have HV1:Hid (yv fr lP wl lC=if lP.length=0\/wl.length=0 then 1 else if lP.any (fun r=> !gv r)=true\/fr<1\/4096<fr then 1 else if jY lP.length fr wl≠0 then jY lP.length fr wl else if lC.any (fun r=> !qI lP.length r)=true then 1 else 0):=by
  rw[yv,if_neg hbig];exact zj rfl
 have H8:Hid (∀l∈wl,l.length<=8):=fun l hl=>by
  have:=List.any_eq_false.1 hany l hl;simpa using this
 clear hbig hany c1 c2 c3;by_cases z1:lP.length=0
 ·have e1:((lP.length:Int)==0)=true:=by rw[beq_iff_eq];omega
  have hv:yv fr lP wl lC=1:=by rw[HV1.out,if_pos (by omega)]
  go_wp2_with(first|((with_reducible refine zp ?_);first|go_big_skip)|((with_reducible refine zz ?_);refine ld1 k rfl rfl .a0 (by rfl) ?_));exact bodyPost_ret (zh rfl rfl) rfl ⟨by rw[hv],k.out.end⟩
 have e1:((lP.length:Int)==0)=false:=by rw[beq_eq_false_iff_ne];omega
 by_cases z2:wl.length=0
 ·have e2:((wl.length:Int)==0)=true:=by rw[beq_iff_eq];omega
  have hv:yv fr lP wl lC=1:=by rw[HV1.out,if_pos (by omega)]
  go_wp2_with(first|((with_reducible refine zp ?_);first|refine zg rfl rfl rfl (by with_reducible rfl) ?_)|((with_reducible refine zz ?_);refine ld1 k rfl rfl .a0 (by rfl) ?_));exact bodyPost_ret (zh rfl rfl) rfl ⟨by rw[hv],k.out.end⟩
 have e2:((wl.length:Int)==0)=false:=by rw[beq_eq_false_iff_ne];omega
 have HV2:Hid (yv fr lP wl lC=if lP.any (fun r=> !gv r)=true\/fr<1\/4096<fr then 1 else if jY lP.length fr wl≠0 then jY lP.length fr wl else if lC.any (fun r=> !qI lP.length r)=true then 1 else 0):=by
  rw[HV1.out,if_neg (by omega)];exact zj rfl
 clear z1 z2 HV1;go_wp2_with(first|((with_reducible refine zp ?_);first|refine zg rfl rfl rfl (by with_reducible rfl) ?_)|((with_reducible refine zz ?_);refine ld1 k rfl rfl .a0 (by rfl) ?_));refine(hasPart_any _ lP _ (fun r=> !gv r) _ _ k.out.fact.1 _ (Nat.le_refl _) ⟨28,#[],rfl,isFn28,fun r hr W' hW'=> ?_⟩).mono ?_
 ·obtain⟨m,a0,a1,a2,rfl,hm0,hm1⟩:=part_lit (HT.out.P r hr)
  exact part1_any m a0 a1 a2 W' hm0 hm1
 rintro e W1 ⟨rfl,hb⟩;rw[idxOf_any];replace k:=zj (k.out.call hb);clear hb;cases hany:lP.any (fun r=> !gv r) with
 |true=>
  have hv:yv fr lP wl lC=1:=by rw[HV2.out,if_pos (.inl hany)]
  go_wp2_with((with_reducible refine zp ?_);first|go_big_skip);exact bodyPost_ret (zh rfl rfl) rfl ⟨by rw[hv],k.out.end⟩
 |false=>
 by_cases f1:fr<1
 ·have d4:decide (fr<1)=true:=decide_eq_true f1
  have hv:yv fr lP wl lC=1:=by rw[HV2.out,if_pos (.inr (.inl f1))]
  go_wp2_with(first|((with_reducible refine zp ?_);first|go_big_skip|refine zg rfl rfl rfl (by with_reducible rfl) ?_)|((with_reducible refine zz ?_);refine ld1 k rfl rfl .a0 (by rfl) ?_));exact bodyPost_ret (zh rfl rfl) rfl ⟨by rw[hv],k.out.end⟩
 have d4:decide (fr<1)=false:=decide_eq_false f1;by_cases f2:4096<fr
 ·have d5:decide (4096<fr)=true:=decide_eq_true f2
  have hv:yv fr lP wl lC=1:=by rw[HV2.out,if_pos (.inr (.inr f2))]
  go_wp2_with(first|((with_reducible refine zp ?_);first|refine zg rfl rfl rfl (by with_reducible rfl) ?_)|((with_reducible refine zz ?_);refine ld1 k rfl rfl .a0 (by rfl) ?_));exact bodyPost_ret (zh rfl rfl) rfl ⟨by rw[hv],k.out.end⟩
 have d5:decide (4096<fr)=false:=decide_eq_false f2;have HV3:Hid (yv fr lP wl lC=if jY lP.length fr wl≠0 then jY lP.length fr wl else if lC.any (fun r=> !qI lP.length r)=true then 1 else 0):=by
  rw[HV2.out,if_neg (by rw[hany];rintro(h|h|h);cases h;exact f1 h;exact f2 h)];exact zj rfl
 have HFR:Hid (1<=fr/\fr<=4096):=⟨by omega,by omega⟩;clear hany f1 f2 HV2 d1 d2 d3
 go_upto_block 1 with(first|((with_reducible refine zp ?_);first|refine zg rfl rfl rfl (by with_reducible rfl) ?_)|((with_reducible refine zz ?_);refine ld1 k rfl rfl .a0 (by rfl) ?_))
 replace k:Hid (St _ _ _ [(c26,PLC (.slice AP lP.length cP) fr (.slice AW wl.length cW) (.slice AC lC.length cC),_)] _ _ _):=k;go_wp2_with fail;clear d4 d5 e1 e2
 go_loopw [61] (fun i W=> ∃kk:Nat,kk<=wl.length/\i= .int .i64 kk/\Hid (jY lP.length fr wl=jY lP.length fr (wl.drop kk))/\Hid (Stay (fun _=>False) X0 w [(c26,PLC (.slice AP lP.length cP) fr (.slice AW wl.length cW) (.slice AC lC.length cC),26)] (vw (.slice AP lP.length cP) lP (.slice AW wl.length cW) lW wl (.slice AC lC.length cC) lC) W)) (fun i _=>wl.length-(intOf i).toNat)
 case atStart=>exact⟨0,Nat.zero_le _,rfl,zj rfl,zj ⟨_,k.out⟩⟩
 case round=>
  obtain⟨kk,hkk,rfl,hE,hS⟩:=hrel;obtain⟨X,kS⟩:=hS.out;clear k hS;have k:=zj kS;clear kS;by_cases hlt:kk<wl.length
  ·obtain⟨l,hl⟩: ∃l,wl[kk]? =some l:=⟨_,List.getElem?_eq_getElem hlt⟩
   obtain⟨r0,hr0⟩: ∃r0,lW[kk]? =some r0:=⟨_,List.getElem?_eq_getElem (by rw[HWL.out];exact hlt)⟩;obtain⟨A,c,rfl,_⟩:=k.out.fact.2.2.1.2 kk r0 l hr0 hl;obtain⟨bw,ow,eA,_⟩:=k.out.fact.2.1.row hr0 (by decide);have HR0:=Lib.hid hr0;have HL0:=Lib.hid hl;have HEA:=Lib.hid eA;subst eA;have HD:=zj k.out.fact.2.1;have hl8:=H8.out l (List.mem_of_getElem? hl);have HLT:Hid (∀r∈l,Ty kWin r):=HT.out.W l (List.mem_of_getElem? hl);have HE1:Hid (jY lP.length fr wl=if wsE lP.length fr 0 l≠0 then wsE lP.length fr 0 l else jY lP.length fr (wl.drop (kk+1))):=by
    rw[hE.out,wssE_step hl];exact zj rfl
   clear hr0 hl HEA hE;have hki:(kk:Int)<wl.length:=by omega
   go_upto_region 11 with(first|((with_reducible refine zz ?_);refine qx rfl rfl HD.out HR0.out rfl ⟨_,rfl,rfl⟩ (Tryz.isAgg59 _) ?_)|fail)
   clear HD;go_wp2_with fail
   go_loopw [6,67] (fun b j W=> ∃(bb:Int) (jj:Nat),jj<=l.length/\b= .int .i64 bb/\j= .int .i64 jj/\Hid (wsE lP.length fr 0 l=wsE lP.length fr bb (l.drop jj))/\Hid (Stay (fun _=>False) X0 w [(c26,PLC (.slice AP lP.length cP) fr (.slice (some ⟨bw,ow,none⟩) wl.length cW) (.slice AC lC.length cC),26)] (vw (.slice AP lP.length cP) lP (.slice (some ⟨bw,ow,none⟩) wl.length cW) lW wl (.slice AC lC.length cC) lC) W)) (fun _ j _=>l.length-(intOf j).toNat)
   case atStart=>exact⟨0,0,Nat.zero_le _,rfl,rfl,zj rfl,zj ⟨_,k.out⟩⟩
   case round=>
    obtain⟨bb,jj,hjj,rfl,rfl,hE2,hS⟩:=hrel;obtain⟨X,kS⟩:=hS.out;clear k hS;have k:=zj kS;clear kS;by_cases hlt2:jj<l.length
    ·obtain⟨r,hr⟩: ∃r,l[jj]? =some r:=⟨_,List.getElem?_eq_getElem hlt2⟩
     obtain⟨p,f,l2,rfl,hl20,hl21⟩:=win_lit (HLT.out r (List.mem_of_getElem? hr));have hsl:=k.out.fact.2.2.1.at HR0.out HL0.out;obtain⟨bl,ol,eB,_⟩:=hsl.row hr (by decide);have HEB:=Lib.hid eB;subst eB;have HD:=zj hsl;have HRR:=Lib.hid hr;have HE3:Hid (wsE lP.length fr 0 l=if vk lP.length fr p f l2 bb≠0 then vk lP.length fr p f l2 bb else wsE lP.length fr (f+l2) (l.drop (jj+1))):=by
      rw[hE2.out,wsE_step hr];exact zj rfl
     clear hr hsl HEB hE2;have hji:(jj:Int)<l.length:=by omega
     go_upto_region 15 with(first|((with_reducible refine zz ?_);refine xV rfl rfl HD.out HRR.out (by decide) rfl ⟨_,rfl,rfl⟩ (Tryz.isAgg61 _) (Tryz.sizeOf61 _) ?_)|(first|((with_reducible refine zx ?_);refine soa k rfl rfl rfl .a0 (by rfl) (by rfl) (zm rfl) ?_;clear k;intro W k)|((with_reducible refine zf ?_);refine ala k Tryz.zeroValue61 ?_;clear k;intro b61 X W k)))
     clear HD;replace k:Hid (St _ _ _ [(b61,#[.int .i64 p,.int .i64 f,.int .i64 l2],_),(c26,PLC (.slice AP lP.length cP) fr _ (.slice AC lC.length cC),_)] _ _ _):=k;go_wp2_with((with_reducible refine zz ?_);refine lda k rfl rfl (by repeat constructor) (by rfl) ?_);refine(pwindow_any AP lP.length cP fr _ _ p f l2 bb _ hf0 hf1 hl20 hl21).mono ?_;rintro e W1 ⟨rfl,hb⟩;replace k:=zj (k.out.call hb);clear hb;generalize hwe:vk lP.length fr p f l2 bb=E at HE3;have HWE:=Lib.hid hwe;clear hwe;by_cases hE0:E=0
     ·subst hE0
      obtain⟨w1,w2,w3,w4,w5,w6,w7⟩:=winE_ok HWE.out;have hfr:=HFR.out;have hwr:IntKind.i64.wrap (f+l2)=f+l2:=xg (by omega) (by omega);go_wp2_with((with_reducible refine zz ?_);refine ld1 k rfl rfl .a0 (by rfl) ?_)
      go_roundw
      case rel=>exact⟨f+l2,jj+1,by omega,rfl,by go_num,zj (by rw[HE3.out,if_neg (by decide)]),zj ⟨_,k.out.drop (n:=1)⟩⟩
      case measure=>simp[intOf];omega
     ·have dE:(E !=0)=true:=by rw[bne_iff_ne];exact hE0
      have dE2:(E==0)=false:=by rw[beq_eq_false_iff_ne];exact hE0
      have hv:yv fr lP wl lC=E:=by
       have h1:wsE lP.length fr 0 l=E:=by rw[HE3.out,if_pos hE0]
       have h2:jY lP.length fr wl=E:=by rw[HE1.out,h1,if_pos hE0]
       rw[HV3.out,h2,if_pos hE0]
      have HV:=Lib.hid hv;clear hv;go_wp2_with fail;exact bodyPost_ret (zh rfl rfl) rfl ⟨by rw[HV.out],k.out.end⟩
    ·have hji:(l.length:Int)<=jj:=by omega
     have h0:wsE lP.length fr 0 l=0:=by
      rw[hE2.out,List.drop_eq_nil_of_le (by omega),wsE]
     have HE4:Hid (jY lP.length fr wl=jY lP.length fr (wl.drop (kk+1))):=by
      rw[HE1.out,if_neg (by rw[h0];decide)];exact zj rfl
     clear h0 hE2;go_wp2_with fail
     go_roundw
     case rel=>exact⟨kk+1,by omega,by go_num,HE4,zj ⟨_,k.out⟩⟩
     case measure=>simp[intOf];omega
  ·have hki:(wl.length:Int)<=kk:=by omega
   have HV4:Hid (yv fr lP wl lC=if lC.any (fun r=> !qI lP.length r)=true then 1 else 0):=by
    have h0:jY lP.length fr wl=0:=by rw[hE.out,List.drop_eq_nil_of_le (by omega),jY]
    rw[HV3.out,h0,if_neg (by decide)];exact zj rfl
   clear hE;go_wp2_with((with_reducible refine zz ?_);refine ld1 k rfl rfl .a0 (by rfl) ?_);have hbk:=k.out.blk (i:=0) rfl;refine(hasChan_any _ lC _ (fun r=> !qI lP.length r) _ _ k.out.fact.2.2.2 _ (Nat.le_refl _) ⟨32,#[.pointer (some ⟨c26,0,none⟩)],rfl,isFn32,fun r hr W' hW'=>chan1_any AP lP.length cP fr _ _ r (HT.out.C r hr) c26 W' (hbk.below hW')⟩).mono ?_;rintro e W1 ⟨rfl,hb⟩;rw[idxOf_any];replace k:=zj (k.out.call hb);clear hb hbk;cases hany:lC.any (fun r=> !qI lP.length r) with
   |true=>
    go_wp2_with fail;exact bodyPost_ret (zh rfl rfl) rfl ⟨by rw[HV4.out,if_pos hany],k.out.end⟩
   |false=>
    go_wp2_with fail;exact bodyPost_ret (zh rfl rfl) rfl ⟨by rw[HV4.out,if_neg (by rw[hany];decide)],k.out.end⟩
end Go.Proofs.YtaccidkgnkmagaaGreatDoor.Top
