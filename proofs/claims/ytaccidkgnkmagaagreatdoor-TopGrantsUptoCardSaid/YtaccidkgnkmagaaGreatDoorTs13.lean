/-
  Walks and laws of the whole machine: Kern12. Conditions: each theorem names its own.
-/
import Derived.Test.YtaccidkgnkmagaaGreatDoorTs12
set_option maxRecDepth 16000
set_option maxHeartbeats 12800000
set_option linter.unusedVariables false
set_option linter.unusedSimpArgs false
namespace Go.Proofs.YtaccidkgnkmagaaGreatDoor.Top
open Go.RowKit
theorem fds_lit{F:Array Value}(h:Ty kFds F): ∃(f0:Int) (g0:Bool) (f1:Int) (g1:Bool) (f2:Int) (g2:Bool) (f3:Int) (g3:Bool),F= #[.int .i64 f0,.bool g0,.int .i64 f1,.bool g1,.int .i64 f2,.bool g2,.int .i64 f3,.bool g3]:=by
 obtain⟨l⟩:=F;have h0:TyL kFds l:=h;unfold kFds at h0;clear h;obtain⟨_,l0,rfl,⟨f0,rfl,_⟩,h1⟩:=yq h0;clear h0;obtain⟨_,l1,rfl,⟨g0,rfl⟩,h2⟩:=yq h1;clear h1;obtain⟨_,l2,rfl,⟨f1,rfl,_⟩,h3⟩:=yq h2;clear h2;obtain⟨_,l3,rfl,⟨g1,rfl⟩,h4⟩:=yq h3;clear h3;obtain⟨_,l4,rfl,⟨f2,rfl,_⟩,h5⟩:=yq h4;clear h4;obtain⟨_,l5,rfl,⟨g2,rfl⟩,h6⟩:=yq h5;clear h5;obtain⟨_,l6,rfl,⟨f3,rfl,_⟩,h7⟩:=yq h6;clear h6;obtain⟨_,l7,rfl,⟨g3,rfl⟩,h8⟩:=yq h7;obtain rfl:=gE h8;exact⟨f0,g0,f1,g1,f2,g2,f3,g3,rfl⟩
theorem idx128{f0 f1 f2 f3:Int}{g0 g1 g2 g3:Bool}(w:World):
  ((Instr.index 128 (.agg #[.int .i64 f0,.bool g0,.int .i64 f1,.bool g1,.int .i64 f2,.bool g2,.int .i64 f3,.bool g3]) (.int .i64 0)).run Tryz.prog w= .ok (.agg #[.int .i64 f0,.bool g0]) w)/\
  ((Instr.index 128 (.agg #[.int .i64 f0,.bool g0,.int .i64 f1,.bool g1,.int .i64 f2,.bool g2,.int .i64 f3,.bool g3]) (.int .i64 1)).run Tryz.prog w= .ok (.agg #[.int .i64 f1,.bool g1]) w)/\
  ((Instr.index 128 (.agg #[.int .i64 f0,.bool g0,.int .i64 f1,.bool g1,.int .i64 f2,.bool g2,.int .i64 f3,.bool g3]) (.int .i64 2)).run Tryz.prog w= .ok (.agg #[.int .i64 f2,.bool g2]) w)/\
  ((Instr.index 128 (.agg #[.int .i64 f0,.bool g0,.int .i64 f1,.bool g1,.int .i64 f2,.bool g2,.int .i64 f3,.bool g3]) (.int .i64 3)).run Tryz.prog w= .ok (.agg #[.int .i64 f3,.bool g3]) w):=by
 have hu:Tryz.prog.underlying 128=some (.array 4 127):=Tryz.underlying128;have h1:=(jg (T:=127) rfl w).1;have h2:=(jg (T:=127) rfl w).2;refine⟨?_,?_,?_,?_⟩<;>simp[Instr.index,asIntOf,run_underlying hu,part,h1,h2]
def CntI(bk n s m:Nat)(x:Kn)(X0:Nat->Prop)(w:World)(bs0:List (Nat×Array Value×TypeId))(W:World):Prop:=
 ∃(y:Kn) (X:Nat->Prop),St (fun k=>k=bk) X0 w (bs0++ [(bk,KC y,116)]) (KSl y) X W/\KOk n s m y/\KRel x y/\y.P=x.P/\y.gone=x.gone/\y.want=x.want/\y.Tr=x.Tr
def EndsR(x:Kn)(pid:Int)(e:Ending)(x':Kn):Prop:=e= .returned (.tuple #[])/\x'.want=x.want/\(pid≠1-> ∀y∈xh x.P,y≠pid->y∈xh x'.P)
theorem dead_set{r:Array Value}(h:Ty yu r){c:Int}(h0: -9223372036854775808<=c)(h1:c<=9223372036854775807):Ty yu ((r.setIfInBounds 2 (.int .i64 4)).setIfInBounds 13 (.int .i64 c))/\zX ((r.setIfInBounds 2 (.int .i64 4)).setIfInBounds 13 (.int .i64 c))=zX r/\ym ((r.setIfInBounds 2 (.int .i64 4)).setIfInBounds 13 (.int .i64 c))=ym r:=by
 have hl: ∀j,j<2->zQ ((r.setIfInBounds 2 (.int .i64 4)).setIfInBounds 13 (.int .i64 c)) j=zQ r j:=fun j hj=>by
  unfold zQ;rw[Array.getElem?_setIfInBounds_ne (by omega),Array.getElem?_setIfInBounds_ne (by omega)]
 exact⟨(h.set (j:=2) rfl (yY (by decide) (by decide))).set (j:=13) rfl (yY h0 h1),hl 0 (by decide),hl 1 (by decide)⟩
theorem zFds_ty:Ty kFds #[.int .i64 0,.bool false,.int .i64 0,.bool false,.int .i64 0,.bool false,.int .i64 0,.bool false]:=⟨yY (by decide) (by decide),ok_bool _,yY (by decide) (by decide),ok_bool _,yY (by decide) (by decide),ok_bool _,yY (by decide) (by decide),ok_bool _,trivial⟩
theorem ZY(bk n s m:Nat)(x:Kn)(X0:Nat->Prop)(w:World)(h:KPre bk n s m x X0 w)(pid code z:Int)(hp:1<=pid)(hc0: -9223372036854775808<=code)(hc1:code<=9223372036854775807)(hz:z=0\/z=1\/z=2)(him:x.Im≠ []):
  Calls Tryz.prog 95 #[.pointer (some ⟨bk,0,none⟩),.int .i64 pid,.int .i64 code,.int .i64 z] w (qX bk n s m x X0 w (EndsR x pid)):=by
 have k:=zj h.begin;have OK:=Lib.hid h.ok;have HB:=Lib.hid h.blk;have hn:=h.hn;have hs:=h.hs;by_cases hp1:pid=1
 ·subst hp1
  clear h;rcases hz with rfl|rfl|rfl
  ·go_enter Tryz.func95,Tryz.ntmps95
   go_wp2_with((with_reducible refine zx ?_);first|(refine yE k (E:=KC {x with vP:= .slice none 0 0,P:=[]}) (G':=KSl {x with vP:= .slice none 0 0,P:=[]}) rfl rfl rfl rfl .a0 (by rfl) (by rfl) (zO _) (fun X W h=>{h with P:=qz _ _ _}) ?_;clear k;intro W k)|(refine sopt k (E:=KC {x with vP:= .slice none 0 0,P:=[],vT:= .slice none 0 0,left:=0,T:=[]}) (G':=KSl {x with vP:= .slice none 0 0,P:=[],vT:= .slice none 0 0,left:=0,T:=[]}) rfl rfl rfl .a0 (by rfl) (by rfl) (zm rfl) (by rfl) (zO _) (fun X W h=>{h with T:=qz _ _ _}) ?_;clear k;intro W k)|(refine yE k (E:=KC {x with vP:= .slice none 0 0,P:=[],vT:= .slice none 0 0,left:=0,T:=[],vS:= .slice none 0 0,S:=[]}) (G':=KSl {x with vP:= .slice none 0 0,P:=[],vT:= .slice none 0 0,left:=0,T:=[],vS:= .slice none 0 0,S:=[]}) rfl rfl rfl rfl .a0 (by rfl) (by rfl) (zO _) (fun X W h=>{h with S:=qz _ _ _}) ?_;clear k;intro W k)|(refine yE k (E:=KC {x with vP:= .slice none 0 0,P:=[],vT:= .slice none 0 0,left:=0,T:=[],vS:= .slice none 0 0,S:=[],vPi:= .slice none 0 0,Pi:=[]}) (G':=KSl {x with vP:= .slice none 0 0,P:=[],vT:= .slice none 0 0,left:=0,T:=[],vS:= .slice none 0 0,S:=[],vPi:= .slice none 0 0,Pi:=[]}) rfl rfl rfl rfl .a0 (by rfl) (by rfl) (zO _) (fun X W h=>{h with Pi:=qz _ _ _}) ?_;clear k;intro W k)|(refine yE k (E:=KC {x with vP:= .slice none 0 0,P:=[],vT:= .slice none 0 0,left:=0,T:=[],vS:= .slice none 0 0,S:=[],vPi:= .slice none 0 0,Pi:=[],vH:= .slice none 0 0,H:=[]}) (G':=KSl {x with vP:= .slice none 0 0,P:=[],vT:= .slice none 0 0,left:=0,T:=[],vS:= .slice none 0 0,S:=[],vPi:= .slice none 0 0,Pi:=[],vH:= .slice none 0 0,H:=[]}) rfl rfl rfl rfl .a0 (by rfl) (by rfl) (zO _) (fun X W h=>{h with H:=qz _ _ _}) ?_;clear k;intro W k)|(refine yE k (E:=KC {x with vP:= .slice none 0 0,P:=[],vT:= .slice none 0 0,left:=0,T:=[],vS:= .slice none 0 0,S:=[],vPi:= .slice none 0 0,Pi:=[],vH:= .slice none 0 0,H:=[],gone:=1}) (G':=KSl {x with vP:= .slice none 0 0,P:=[],vT:= .slice none 0 0,left:=0,T:=[],vS:= .slice none 0 0,S:=[],vPi:= .slice none 0 0,Pi:=[],vH:= .slice none 0 0,H:=[],gone:=1}) rfl rfl rfl rfl .a0 (by rfl) (by rfl) (zO _) (fun X W h=>{h with}) ?_;clear k;intro W k));exact bodyPost_ret (results_none rfl _) rfl (k.out.kpost 0 rfl HB.out k.out.fact {OK.out with P:=⟨(fun _ h=>by cases h),(fun _ h=>by cases h),(fun _ h=>by cases h),List.nodup_nil,Nat.zero_le _⟩,T:=(fun _ h=>by cases h),Tl:=Nat.zero_le _,S:=(fun _ h=>by cases h),Sl:=Nat.zero_le _,Pi:=(fun _ h=>by cases h),Pil:=Nat.zero_le _,H:=(fun _ h=>by cases h),Hl:=Nat.zero_le _,idle:=(fun h=>absurd h him)} ⟨rfl,rfl,rfl,rfl⟩ ⟨rfl,rfl,fun h=>absurd rfl h⟩)
  ·go_enter Tryz.func95,Tryz.ntmps95
   go_wp2_with((with_reducible refine zx ?_);first|(refine yE k (E:=KC {x with vP:= .slice none 0 0,P:=[]}) (G':=KSl {x with vP:= .slice none 0 0,P:=[]}) rfl rfl rfl rfl .a0 (by rfl) (by rfl) (zO _) (fun X W h=>{h with P:=qz _ _ _}) ?_;clear k;intro W k)|(refine sopt k (E:=KC {x with vP:= .slice none 0 0,P:=[],vT:= .slice none 0 0,left:=0,T:=[]}) (G':=KSl {x with vP:= .slice none 0 0,P:=[],vT:= .slice none 0 0,left:=0,T:=[]}) rfl rfl rfl .a0 (by rfl) (by rfl) (zm rfl) (by rfl) (zO _) (fun X W h=>{h with T:=qz _ _ _}) ?_;clear k;intro W k)|(refine yE k (E:=KC {x with vP:= .slice none 0 0,P:=[],vT:= .slice none 0 0,left:=0,T:=[],vS:= .slice none 0 0,S:=[]}) (G':=KSl {x with vP:= .slice none 0 0,P:=[],vT:= .slice none 0 0,left:=0,T:=[],vS:= .slice none 0 0,S:=[]}) rfl rfl rfl rfl .a0 (by rfl) (by rfl) (zO _) (fun X W h=>{h with S:=qz _ _ _}) ?_;clear k;intro W k)|(refine yE k (E:=KC {x with vP:= .slice none 0 0,P:=[],vT:= .slice none 0 0,left:=0,T:=[],vS:= .slice none 0 0,S:=[],vPi:= .slice none 0 0,Pi:=[]}) (G':=KSl {x with vP:= .slice none 0 0,P:=[],vT:= .slice none 0 0,left:=0,T:=[],vS:= .slice none 0 0,S:=[],vPi:= .slice none 0 0,Pi:=[]}) rfl rfl rfl rfl .a0 (by rfl) (by rfl) (zO _) (fun X W h=>{h with Pi:=qz _ _ _}) ?_;clear k;intro W k)|(refine yE k (E:=KC {x with vP:= .slice none 0 0,P:=[],vT:= .slice none 0 0,left:=0,T:=[],vS:= .slice none 0 0,S:=[],vPi:= .slice none 0 0,Pi:=[],vH:= .slice none 0 0,H:=[]}) (G':=KSl {x with vP:= .slice none 0 0,P:=[],vT:= .slice none 0 0,left:=0,T:=[],vS:= .slice none 0 0,S:=[],vPi:= .slice none 0 0,Pi:=[],vH:= .slice none 0 0,H:=[]}) rfl rfl rfl rfl .a0 (by rfl) (by rfl) (zO _) (fun X W h=>{h with H:=qz _ _ _}) ?_;clear k;intro W k)|(refine yE k (E:=KC {x with vP:= .slice none 0 0,P:=[],vT:= .slice none 0 0,left:=0,T:=[],vS:= .slice none 0 0,S:=[],vPi:= .slice none 0 0,Pi:=[],vH:= .slice none 0 0,H:=[],gone:=2}) (G':=KSl {x with vP:= .slice none 0 0,P:=[],vT:= .slice none 0 0,left:=0,T:=[],vS:= .slice none 0 0,S:=[],vPi:= .slice none 0 0,Pi:=[],vH:= .slice none 0 0,H:=[],gone:=2}) rfl rfl rfl rfl .a0 (by rfl) (by rfl) (zO _) (fun X W h=>{h with}) ?_;clear k;intro W k));exact bodyPost_ret (results_none rfl _) rfl (k.out.kpost 0 rfl HB.out k.out.fact {OK.out with P:=⟨(fun _ h=>by cases h),(fun _ h=>by cases h),(fun _ h=>by cases h),List.nodup_nil,Nat.zero_le _⟩,T:=(fun _ h=>by cases h),Tl:=Nat.zero_le _,S:=(fun _ h=>by cases h),Sl:=Nat.zero_le _,Pi:=(fun _ h=>by cases h),Pil:=Nat.zero_le _,H:=(fun _ h=>by cases h),Hl:=Nat.zero_le _,idle:=(fun h=>absurd h him)} ⟨rfl,rfl,rfl,rfl⟩ ⟨rfl,rfl,fun h=>absurd rfl h⟩)
  ·go_enter Tryz.func95,Tryz.ntmps95
   go_wp2_with((with_reducible refine zx ?_);first|(refine yE k (E:=KC {x with vP:= .slice none 0 0,P:=[]}) (G':=KSl {x with vP:= .slice none 0 0,P:=[]}) rfl rfl rfl rfl .a0 (by rfl) (by rfl) (zO _) (fun X W h=>{h with P:=qz _ _ _}) ?_;clear k;intro W k)|(refine sopt k (E:=KC {x with vP:= .slice none 0 0,P:=[],vT:= .slice none 0 0,left:=0,T:=[]}) (G':=KSl {x with vP:= .slice none 0 0,P:=[],vT:= .slice none 0 0,left:=0,T:=[]}) rfl rfl rfl .a0 (by rfl) (by rfl) (zm rfl) (by rfl) (zO _) (fun X W h=>{h with T:=qz _ _ _}) ?_;clear k;intro W k)|(refine yE k (E:=KC {x with vP:= .slice none 0 0,P:=[],vT:= .slice none 0 0,left:=0,T:=[],vS:= .slice none 0 0,S:=[]}) (G':=KSl {x with vP:= .slice none 0 0,P:=[],vT:= .slice none 0 0,left:=0,T:=[],vS:= .slice none 0 0,S:=[]}) rfl rfl rfl rfl .a0 (by rfl) (by rfl) (zO _) (fun X W h=>{h with S:=qz _ _ _}) ?_;clear k;intro W k)|(refine yE k (E:=KC {x with vP:= .slice none 0 0,P:=[],vT:= .slice none 0 0,left:=0,T:=[],vS:= .slice none 0 0,S:=[],vPi:= .slice none 0 0,Pi:=[]}) (G':=KSl {x with vP:= .slice none 0 0,P:=[],vT:= .slice none 0 0,left:=0,T:=[],vS:= .slice none 0 0,S:=[],vPi:= .slice none 0 0,Pi:=[]}) rfl rfl rfl rfl .a0 (by rfl) (by rfl) (zO _) (fun X W h=>{h with Pi:=qz _ _ _}) ?_;clear k;intro W k)|(refine yE k (E:=KC {x with vP:= .slice none 0 0,P:=[],vT:= .slice none 0 0,left:=0,T:=[],vS:= .slice none 0 0,S:=[],vPi:= .slice none 0 0,Pi:=[],vH:= .slice none 0 0,H:=[]}) (G':=KSl {x with vP:= .slice none 0 0,P:=[],vT:= .slice none 0 0,left:=0,T:=[],vS:= .slice none 0 0,S:=[],vPi:= .slice none 0 0,Pi:=[],vH:= .slice none 0 0,H:=[]}) rfl rfl rfl rfl .a0 (by rfl) (by rfl) (zO _) (fun X W h=>{h with H:=qz _ _ _}) ?_;clear k;intro W k)|(refine yE k (E:=KC {x with vP:= .slice none 0 0,P:=[],vT:= .slice none 0 0,left:=0,T:=[],vS:= .slice none 0 0,S:=[],vPi:= .slice none 0 0,Pi:=[],vH:= .slice none 0 0,H:=[],gone:=3}) (G':=KSl {x with vP:= .slice none 0 0,P:=[],vT:= .slice none 0 0,left:=0,T:=[],vS:= .slice none 0 0,S:=[],vPi:= .slice none 0 0,Pi:=[],vH:= .slice none 0 0,H:=[],gone:=3}) rfl rfl rfl rfl .a0 (by rfl) (by rfl) (zO _) (fun X W h=>{h with}) ?_;clear k;intro W k));exact bodyPost_ret (results_none rfl _) rfl (k.out.kpost 0 rfl HB.out k.out.fact {OK.out with P:=⟨(fun _ h=>by cases h),(fun _ h=>by cases h),(fun _ h=>by cases h),List.nodup_nil,Nat.zero_le _⟩,T:=(fun _ h=>by cases h),Tl:=Nat.zero_le _,S:=(fun _ h=>by cases h),Sl:=Nat.zero_le _,Pi:=(fun _ h=>by cases h),Pil:=Nat.zero_le _,H:=(fun _ h=>by cases h),Hl:=Nat.zero_le _,idle:=(fun h=>absurd h him)} ⟨rfl,rfl,rfl,rfl⟩ ⟨rfl,rfl,fun h=>absurd rfl h⟩)
 ·have d1:(pid==1)=false:=by rw[beq_eq_false_iff_ne];exact hp1
  have n1: ¬(pid=1):=hp1;clear h;go_enter Tryz.func95,Tryz.ntmps95;go_wp2_with((with_reducible refine zz ?_);refine ld1 k rfl rfl .a0 (by rfl) ?_);refine(jk _ x.P pid _ _ k.out.fact.P OK.out.P.ty).mono ?_;rintro e W1 ⟨r,b,rfl,hr,hf1,hf2,hb⟩;have hrs:r.size=26:=hr.size;have hro:=hr.one;replace k:=zj (k.out.call hb);clear hb;obtain⟨F,hF,eF,fF⟩:=fds_of hr;obtain⟨f0,g0,f1,g1,f2,g2,f3,g3,rfl⟩:=fds_lit hF;go_wp2_with(first|((with_reducible refine zz ?_);refine ldp k rfl rfl .a0 (D:= #[.int .i64 f0,.bool g0,.int .i64 f1,.bool g1,.int .i64 f2,.bool g2,.int .i64 f3,.bool g3]) eF fF ?_)|((with_reducible refine zx ?_);refine soa k rfl rfl rfl .a0 (by assumption) (by rfl) (by assumption) ?_;clear k;intro W k)|((with_reducible refine zf ?_);refine ala k Tryz.zeroValue132 ?_;clear k;intro b132 X W k));clear eF hF;replace k:Hid (St _ _ _ [(_,r,_),(_,KC x,_)] _ _ _):=k
  go_loopw [56] (fun i W=> ∃kk:Nat,kk<=4/\i= .int .i64 kk/\Hid (CntI bk n s m x X0 w [(b132,r,132)] W)) (fun i _=>4-(intOf i).toNat)
  case atStart=>exact⟨0,by omega,rfl,zj ⟨x,_,k.out,OK.out,KRel.refl x,rfl,rfl,rfl,rfl⟩⟩
  case round=>
   obtain⟨kk,hkk,rfl,hI⟩:=hrel;have HI:=hI;obtain⟨y,X,ky,OKy,hrel,hyP,hyg,hyw,hyt⟩:=hI.out;have OKY:=Lib.hid OKy;have REL:=Lib.hid hrel;clear k OKy hrel hI HI;have q0:=fun w=>(idx128 (f0:=f0) (f1:=f1) (f2:=f2) (f3:=f3) (g0:=g0) (g1:=g1) (g2:=g2) (g3:=g3) w);have q1:=fun w=>(q0 w).1;have q2:=fun w=>(q0 w).2.1;have q3:=fun w=>(q0 w).2.2.1;have q4:=fun w=>(q0 w).2.2.2;clear q0;have k:=zj ky;clear ky;replace k:Hid (St _ _ _ [(_,r,_),(_,KC y,_)] _ _ _):=k;have hk5:kk=0\/kk=1\/kk=2\/kk=3\/kk=4:=by omega
   rcases hk5 with rfl|rfl|rfl|rfl|rfl
   ·go_upto_region 7 with(first|((with_reducible refine zx ?_);refine soa k rfl rfl rfl .a0 (by rfl) (by rfl) (zm rfl) ?_;clear k;intro W k)|((with_reducible refine zf ?_);refine ala k Tryz.zeroValue127 ?_;clear k;intro b127 X W k))
    have HPer:=Lib.hid k.out.per;refine zt k 11 12 (by kernel_rfl) rfl ?_;clear k;intro W k;refine zq [(0,some 59,[11]),(1,some 60,[11]),(2,some 61,[11]),(3,some 62,[11]),(4,some 63,[11]),(5,some 64,[11]),(6,some 65,[11])] [?v1_0,?v1_1,?v1_2,?v1_3,?v1_4,?v1_5,?v1_6] 5 (by kernel_rfl) ⟨_,k.out⟩ ?l1 ?h1;case l1=>
     intro w' hSw;iterate 7
      refine lkw rfl rfl (by rfl) ?_ ?_
      ·first|((with_reducible refine yw ?_);first|exact hSw.l1 rfl rfl (by repeat constructor) (by rfl)|exact hSw.la rfl rfl .a0 (by rfl) (by rfl)|exact hSw.lp rfl rfl (by repeat constructor) (D:= #[_,_]) (by rfl) (by rfl) (by rfl))|(go_simp<;>with_reducible rfl)
      try simp only[Act.put,tS,t0,t1]
     trivial
    simp only[zw,zk,Act.put,tS,t0,t1];refine w1 7 4 (by kernel_rfl) rfl ?_;go_wp2_with fail;refine(qf _ y.Pi f0 g0 (-1) _ W k.out.fact.Pi OKY.out.Pi (by have:=OKY.out.Pil;omega) k.out.lt).mono ?_;rintro e W1 ⟨v2,l2,rfl,hl1,hl2,hl3,hb⟩;have hv2:=hl1.one;replace k:=zj (k.out.call hb);clear hb;go_wp2_with fail;refine zd (yz ⟨_,k.out⟩) ?_;refine zq [(8,some 67,[9,10,11]),(9,some 68,[10,11]),(10,some 69,[11])] [?v2_8,?v2_9,?v2_10] 1 (by kernel_rfl) ⟨_,k.out⟩ ?l2 ?h2;case l2=>
     intro w' hSw;iterate 3
      refine lkw rfl rfl (by rfl) ?_ ?_
      ·go_simp<;>with_reducible rfl
      try simp only[Act.put,tS,t0,t1]
     trivial
    simp only[zw,zk,Act.put,tS,t0,t1];refine w1 11 0 (by kernel_rfl) rfl ?_;replace k:=zj (k.out.add hl1 (zb _ _ _));clear hl1;go_wp2_with((with_reducible refine zx ?_);refine yE k (E:=KC {y with vPi:=v2,Pi:=l2}) (G':=KSl {y with vPi:=v2,Pi:=l2}) rfl rfl rfl hv2 .a2 (by rfl) (by rfl) (zO _) (fun X W h=>{h.1 with Pi:=h.2}) ?_;clear k;intro W k);refine zd (zJ rfl) ?_;refine zv (by kernel_rfl) ?_ _;clear HPer;go_wp2_with fail
    go_roundw
    case rel=>exact⟨1,by omega,by go_num,zj ⟨{y with vPi:=v2,Pi:=l2},_,k.out.drop (n:=1),{OKY.out with Pi:=hl2,Pil:=Nat.le_trans hl3 OKY.out.Pil},⟨REL.out.Im,REL.out.Ou,REL.out.Is,REL.out.now⟩,hyP,hyg,hyw,hyt⟩⟩
    case measure=>simp[intOf]
   ·go_upto_region 7 with(first|((with_reducible refine zx ?_);refine soa k rfl rfl rfl .a0 (by rfl) (by rfl) (zm rfl) ?_;clear k;intro W k)|((with_reducible refine zf ?_);refine ala k Tryz.zeroValue127 ?_;clear k;intro b127 X W k))
    have HPer:=Lib.hid k.out.per;refine zt k 11 12 (by kernel_rfl) rfl ?_;clear k;intro W k;refine zq [(0,some 59,[11]),(1,some 60,[11]),(2,some 61,[11]),(3,some 62,[11]),(4,some 63,[11]),(5,some 64,[11]),(6,some 65,[11])] [?v3_0,?v3_1,?v3_2,?v3_3,?v3_4,?v3_5,?v3_6] 5 (by kernel_rfl) ⟨_,k.out⟩ ?l3 ?h3;case l3=>
     intro w' hSw;iterate 7
      refine lkw rfl rfl (by rfl) ?_ ?_
      ·first|((with_reducible refine yw ?_);first|exact hSw.l1 rfl rfl (by repeat constructor) (by rfl)|exact hSw.la rfl rfl .a0 (by rfl) (by rfl)|exact hSw.lp rfl rfl (by repeat constructor) (D:= #[_,_]) (by rfl) (by rfl) (by rfl))|(go_simp<;>with_reducible rfl)
      try simp only[Act.put,tS,t0,t1]
     trivial
    simp only[zw,zk,Act.put,tS,t0,t1];refine w1 7 4 (by kernel_rfl) rfl ?_;go_wp2_with fail;refine(qf _ y.Pi f1 g1 (-1) _ W k.out.fact.Pi OKY.out.Pi (by have:=OKY.out.Pil;omega) k.out.lt).mono ?_;rintro e W1 ⟨v2,l2,rfl,hl1,hl2,hl3,hb⟩;have hv2:=hl1.one;replace k:=zj (k.out.call hb);clear hb;go_wp2_with fail;refine zd (yz ⟨_,k.out⟩) ?_;refine zq [(8,some 67,[9,10,11]),(9,some 68,[10,11]),(10,some 69,[11])] [?v4_8,?v4_9,?v4_10] 1 (by kernel_rfl) ⟨_,k.out⟩ ?l4 ?h4;case l4=>
     intro w' hSw;iterate 3
      refine lkw rfl rfl (by rfl) ?_ ?_
      ·go_simp<;>with_reducible rfl
      try simp only[Act.put,tS,t0,t1]
     trivial
    simp only[zw,zk,Act.put,tS,t0,t1];refine w1 11 0 (by kernel_rfl) rfl ?_;replace k:=zj (k.out.add hl1 (zb _ _ _));clear hl1;go_wp2_with((with_reducible refine zx ?_);refine yE k (E:=KC {y with vPi:=v2,Pi:=l2}) (G':=KSl {y with vPi:=v2,Pi:=l2}) rfl rfl rfl hv2 .a2 (by rfl) (by rfl) (zO _) (fun X W h=>{h.1 with Pi:=h.2}) ?_;clear k;intro W k);refine zd (zJ rfl) ?_;refine zv (by kernel_rfl) ?_ _;clear HPer;go_wp2_with fail
    go_roundw
    case rel=>exact⟨2,by omega,by go_num,zj ⟨{y with vPi:=v2,Pi:=l2},_,k.out.drop (n:=1),{OKY.out with Pi:=hl2,Pil:=Nat.le_trans hl3 OKY.out.Pil},⟨REL.out.Im,REL.out.Ou,REL.out.Is,REL.out.now⟩,hyP,hyg,hyw,hyt⟩⟩
    case measure=>simp[intOf]
   ·go_upto_region 7 with(first|((with_reducible refine zx ?_);refine soa k rfl rfl rfl .a0 (by rfl) (by rfl) (zm rfl) ?_;clear k;intro W k)|((with_reducible refine zf ?_);refine ala k Tryz.zeroValue127 ?_;clear k;intro b127 X W k))
    have HPer:=Lib.hid k.out.per;refine zt k 11 12 (by kernel_rfl) rfl ?_;clear k;intro W k;refine zq [(0,some 59,[11]),(1,some 60,[11]),(2,some 61,[11]),(3,some 62,[11]),(4,some 63,[11]),(5,some 64,[11]),(6,some 65,[11])] [?v5_0,?v5_1,?v5_2,?v5_3,?v5_4,?v5_5,?v5_6] 5 (by kernel_rfl) ⟨_,k.out⟩ ?l5 ?h5;case l5=>
     intro w' hSw;iterate 7
      refine lkw rfl rfl (by rfl) ?_ ?_
      ·first|((with_reducible refine yw ?_);first|exact hSw.l1 rfl rfl (by repeat constructor) (by rfl)|exact hSw.la rfl rfl .a0 (by rfl) (by rfl)|exact hSw.lp rfl rfl (by repeat constructor) (D:= #[_,_]) (by rfl) (by rfl) (by rfl))|(go_simp<;>with_reducible rfl)
      try simp only[Act.put,tS,t0,t1]
     trivial
    simp only[zw,zk,Act.put,tS,t0,t1];refine w1 7 4 (by kernel_rfl) rfl ?_;go_wp2_with fail;refine(qf _ y.Pi f2 g2 (-1) _ W k.out.fact.Pi OKY.out.Pi (by have:=OKY.out.Pil;omega) k.out.lt).mono ?_;rintro e W1 ⟨v2,l2,rfl,hl1,hl2,hl3,hb⟩;have hv2:=hl1.one;replace k:=zj (k.out.call hb);clear hb;go_wp2_with fail;refine zd (yz ⟨_,k.out⟩) ?_;refine zq [(8,some 67,[9,10,11]),(9,some 68,[10,11]),(10,some 69,[11])] [?v6_8,?v6_9,?v6_10] 1 (by kernel_rfl) ⟨_,k.out⟩ ?l6 ?h6;case l6=>
     intro w' hSw;iterate 3
      refine lkw rfl rfl (by rfl) ?_ ?_
      ·go_simp<;>with_reducible rfl
      try simp only[Act.put,tS,t0,t1]
     trivial
    simp only[zw,zk,Act.put,tS,t0,t1];refine w1 11 0 (by kernel_rfl) rfl ?_;replace k:=zj (k.out.add hl1 (zb _ _ _));clear hl1;go_wp2_with((with_reducible refine zx ?_);refine yE k (E:=KC {y with vPi:=v2,Pi:=l2}) (G':=KSl {y with vPi:=v2,Pi:=l2}) rfl rfl rfl hv2 .a2 (by rfl) (by rfl) (zO _) (fun X W h=>{h.1 with Pi:=h.2}) ?_;clear k;intro W k);refine zd (zJ rfl) ?_;refine zv (by kernel_rfl) ?_ _;clear HPer;go_wp2_with fail
    go_roundw
    case rel=>exact⟨3,by omega,by go_num,zj ⟨{y with vPi:=v2,Pi:=l2},_,k.out.drop (n:=1),{OKY.out with Pi:=hl2,Pil:=Nat.le_trans hl3 OKY.out.Pil},⟨REL.out.Im,REL.out.Ou,REL.out.Is,REL.out.now⟩,hyP,hyg,hyw,hyt⟩⟩
    case measure=>simp[intOf]
   ·go_upto_region 7 with(first|((with_reducible refine zx ?_);refine soa k rfl rfl rfl .a0 (by rfl) (by rfl) (zm rfl) ?_;clear k;intro W k)|((with_reducible refine zf ?_);refine ala k Tryz.zeroValue127 ?_;clear k;intro b127 X W k))
    have HPer:=Lib.hid k.out.per;refine zt k 11 12 (by kernel_rfl) rfl ?_;clear k;intro W k;refine zq [(0,some 59,[11]),(1,some 60,[11]),(2,some 61,[11]),(3,some 62,[11]),(4,some 63,[11]),(5,some 64,[11]),(6,some 65,[11])] [?v7_0,?v7_1,?v7_2,?v7_3,?v7_4,?v7_5,?v7_6] 5 (by kernel_rfl) ⟨_,k.out⟩ ?l7 ?h7;case l7=>
     intro w' hSw;iterate 7
      refine lkw rfl rfl (by rfl) ?_ ?_
      ·first|((with_reducible refine yw ?_);first|exact hSw.l1 rfl rfl (by repeat constructor) (by rfl)|exact hSw.la rfl rfl .a0 (by rfl) (by rfl)|exact hSw.lp rfl rfl (by repeat constructor) (D:= #[_,_]) (by rfl) (by rfl) (by rfl))|(go_simp<;>with_reducible rfl)
      try simp only[Act.put,tS,t0,t1]
     trivial
    simp only[zw,zk,Act.put,tS,t0,t1];refine w1 7 4 (by kernel_rfl) rfl ?_;go_wp2_with fail;refine(qf _ y.Pi f3 g3 (-1) _ W k.out.fact.Pi OKY.out.Pi (by have:=OKY.out.Pil;omega) k.out.lt).mono ?_;rintro e W1 ⟨v2,l2,rfl,hl1,hl2,hl3,hb⟩;have hv2:=hl1.one;replace k:=zj (k.out.call hb);clear hb;go_wp2_with fail;refine zd (yz ⟨_,k.out⟩) ?_;refine zq [(8,some 67,[9,10,11]),(9,some 68,[10,11]),(10,some 69,[11])] [?v8_8,?v8_9,?v8_10] 1 (by kernel_rfl) ⟨_,k.out⟩ ?l8 ?h8;case l8=>
     intro w' hSw;iterate 3
      refine lkw rfl rfl (by rfl) ?_ ?_
      ·go_simp<;>with_reducible rfl
      try simp only[Act.put,tS,t0,t1]
     trivial
    simp only[zw,zk,Act.put,tS,t0,t1];refine w1 11 0 (by kernel_rfl) rfl ?_;replace k:=zj (k.out.add hl1 (zb _ _ _));clear hl1;go_wp2_with((with_reducible refine zx ?_);refine yE k (E:=KC {y with vPi:=v2,Pi:=l2}) (G':=KSl {y with vPi:=v2,Pi:=l2}) rfl rfl rfl hv2 .a2 (by rfl) (by rfl) (zO _) (fun X W h=>{h.1 with Pi:=h.2}) ?_;clear k;intro W k);refine zd (zJ rfl) ?_;refine zv (by kernel_rfl) ?_ _;clear HPer;go_wp2_with fail
    go_roundw
    case rel=>exact⟨4,by omega,by go_num,zj ⟨{y with vPi:=v2,Pi:=l2},_,k.out.drop (n:=1),{OKY.out with Pi:=hl2,Pil:=Nat.le_trans hl3 OKY.out.Pil},⟨REL.out.Im,REL.out.Ou,REL.out.Is,REL.out.now⟩,hyP,hyg,hyw,hyt⟩⟩
    case measure=>simp[intOf]
   ·clear q1 q2 q3 q4
    obtain⟨hT,hpi,hpa,hst⟩:=fds_all hr zFds_ty
    go_upto_region 10 with((with_reducible refine zx ?_);refine sop k rfl rfl rfl .a0 (by rfl) (by assumption) (zm rfl) rfl ?_;clear k;intro W k)
    replace k:Hid (St _ _ _ [(_,patch r 14 #[.int .i64 0,.bool false,.int .i64 0,.bool false,.int .i64 0,.bool false,.int .i64 0,.bool false],_),(_,KC y,_)] _ _ _):=k;generalize patch r 14 #[.int .i64 0,.bool false,.int .i64 0,.bool false,.int .i64 0,.bool false,.int .i64 0,.bool false]=r1 at k hT hpi hpa hst;have hrs1:r1.size=26:=hT.size;have hro1:=hT.one;have e1:r1.toList[1]? =some (.int .i64 (ym r)):=by rw[Array.getElem?_toList,<-hpa];exact xq hT 1 rfl
    have HT:=Lib.hid hT;clear hT;have HPer:=Lib.hid k.out.per;refine zt k 27 36 (by kernel_rfl) rfl ?_;clear k;intro W k;refine zq [(0,some 73,[27])] [?v9_0] 35 (by kernel_rfl) ⟨_,k.out⟩ ?l9 ?h9;case l9=>
     intro w' hSw;refine lkw rfl rfl (by rfl) ?_ ?_
     ·go_simp<;>with_reducible rfl
     try simp only[Act.put,tS,t0,t1]
     trivial
    simp only[zw,zk,Act.put,tS,t0,t1];refine zU [(1,some 74,[]),(2,some 75,[])] [?v10_1,?v10_2] 33 (by kernel_rfl) (.inl ⟨_,k.out⟩) ?l10 ?h10;case l10=>
     intro w';iterate 2
      refine lkw rfl rfl (by rfl) ?_ ?_
      ·go_simp<;>with_reducible rfl
      try simp only[Act.put,tS,t0,t1]
     trivial
    simp only[zw,zk,Act.put,tS,t0,t1];refine zq [(3,some 76,[27]),(4,some 77,[27]),(5,some 78,[27]),(6,some 79,[27]),(7,some 80,[27]),(8,some 81,[27]),(10,some 83,[11,12,13,14,27]),(11,some 84,[12,13,14,27]),(12,some 85,[13,14,27]),(13,some 86,[14,27]),(14,some 87,[27]),(15,some 88,[16,27]),(17,some 90,[18,19,20,21,27]),(18,some 91,[19,20,21,27]),(19,some 92,[20,21,27]),(20,some 93,[21,27]),(21,some 94,[27]),(22,some 95,[23,27])] [?v11_3,?v11_4,?v11_5,?v11_6,?v11_7,?v11_8,?v11_10,?v11_11,?v11_12,?v11_13,?v11_14,?v11_15,?v11_17,?v11_18,?v11_19,?v11_20,?v11_21,?v11_22] 15 (by kernel_rfl) ⟨_,k.out⟩ ?l11 ?h11;case l11=>
     intro w' hSw;iterate 18
      refine lkw rfl rfl (by rfl) ?_ ?_
      ·first|((with_reducible refine yw ?_);first|exact hSw.l1 rfl rfl .a1 (by rfl)|exact hSw.la rfl rfl .a0 (by first|rfl|assumption) (by rfl)|exact hSw.lp rfl rfl .a1 (D:= #[_,_]) (by rfl) (by rfl) (by rfl))|(go_simp<;>with_reducible rfl)
      try simp only[Act.put,tS,t0,t1]
     trivial
    simp only[zw,zk,Act.put,tS,t0,t1];refine w1 9 14 (by kernel_rfl) rfl ?_;go_wp2_with fail;refine(hdrop_any y.hsz _ y.H pid _ W k.out.fact.H OKY.out.H (by have:=OKY.out.Hl;omega) k.out.lt OKY.out.hsz.1 OKY.out.hsz.2).mono ?_;rintro e W1 ⟨hx,vh,lh,rfl,hh1,hh2,hh3,hh4,hh5,hb⟩;have hvh:=hh1.one;replace k:=zj (k.out.call hb);clear hb;go_wp2_with fail;refine zd (yz ⟨_,k.out⟩) ?_;refine w1 16 13 (by kernel_rfl) rfl ?_;go_wp2_with fail;refine(tdrop_any _ y.T y.left pid _ W1 k.out.fact.T OKY.out.T k.out.lt (by have:=OKY.out.Tl;omega) #[.int .i64 1]).mono ?_;rintro e W2 ⟨vt,lt,lft,rfl,ht1,ht2,ht3,hb⟩;have hvt:=ht1.one;replace hh1:=(zb _ _ _).below hh1 hb;replace k:=zj (k.out.call hb);clear hb;go_wp2_with fail;refine zd (yz ⟨_,k.out⟩) ?_;refine w1 23 12 (by kernel_rfl) rfl ?_;go_wp2_with fail;refine(sdrop_any _ y.S pid _ W2 k.out.fact.S OKY.out.S (by have:=OKY.out.Sl;omega) k.out.lt).mono ?_;rintro e W3 ⟨vs,ls,rfl,hs1,hs2,hs3,hb⟩;have hvs:=hs1.one;replace hh1:=(zb _ _ _).below hh1 hb;replace ht1:=(zb _ _ _).below ht1 hb;replace k:=zj (k.out.call hb);clear hb;go_wp2_with fail;refine zd (yz ⟨_,k.out⟩) ?_;refine zq [(24,some 97,[25,26,27]),(25,some 98,[26,27]),(26,some 99,[27])] [?v12_24,?v12_25,?v12_26] 9 (by kernel_rfl) ⟨_,k.out⟩ ?l12 ?h12;case l12=>
     intro w' hSw;iterate 3
      refine lkw rfl rfl (by rfl) ?_ ?_
      ·go_simp<;>with_reducible rfl
      try simp only[Act.put,tS,t0,t1]
     trivial
    simp only[zw,zk,Act.put,tS,t0,t1];refine w1 27 8 (by kernel_rfl) rfl ?_;replace k:=zj (((k.out.add hh1 (zb _ _ _)).add ht1 (zb _ _ _)).add hs1 (zb _ _ _));clear hh1 ht1 hs1;go_wp2_with((with_reducible refine zx ?_);refine sopt k (E:=KC {y with hsz:=hx,vH:=vh,H:=lh}) (G':=fun X W=>(KSl {y with hsz:=hx,vH:=vh,H:=lh} X W/\Sl 1 vt lt X W)/\Sl 2 vs ls X W) rfl rfl rfl .a1 (by rfl) (by rfl) (yU rfl hvh) (by rfl) (((zO _).and (zb _ _ _)).and (zb _ _ _)) (fun X W h=>⟨⟨{h.1.1.1 with H:=h.1.1.2},h.1.2⟩,h.2⟩) ?_;clear k;intro W k);refine zd (zJ rfl) ?_;refine zU [(28,some 100,[]),(29,some 101,[]),(30,some 102,[])] [?v13_28,?v13_29,?v13_30] 5 (by kernel_rfl) (.inr (by kernel_rfl)) ?l13 ?h13;case l13=>
     intro w';iterate 3
      refine lkw rfl rfl (by rfl) ?_ ?_
      ·go_simp<;>with_reducible rfl
      try simp only[Act.put,tS,t0,t1]
     trivial
    simp only[zw,zk,Act.put,tS,t0,t1];refine w1 31 4 (by kernel_rfl) rfl ?_;go_wp2_with((with_reducible refine zx ?_);refine sopt k (E:=KC {y with hsz:=hx,vH:=vh,H:=lh,vT:=vt,left:=lft,T:=lt}) (G':=fun X W=>KSl {y with hsz:=hx,vH:=vh,H:=lh,vT:=vt,left:=lft,T:=lt} X W/\Sl 2 vs ls X W) rfl rfl rfl .a1 (by rfl) (by rfl) (yU hvt rfl) (by rfl) ((zO _).and (zb _ _ _)) (fun X W h=>⟨{h.1.1 with T:=h.1.2},h.2⟩) ?_;clear k;intro W k);refine zd (qb (by kernel_rfl)) ?_;refine zU [(32,some 103,[]),(33,some 104,[]),(34,some 105,[])] [?v14_32,?v14_33,?v14_34] 1 (by kernel_rfl) (.inr (by kernel_rfl)) ?l14 ?h14;case l14=>
     intro w';iterate 3
      refine lkw rfl rfl (by rfl) ?_ ?_
      ·go_simp<;>with_reducible rfl
      try simp only[Act.put,tS,t0,t1]
     trivial
    simp only[zw,zk,Act.put,tS,t0,t1];refine w1 35 0 (by kernel_rfl) rfl ?_;go_wp2_with((with_reducible refine zx ?_);refine yE k (E:=KC {y with hsz:=hx,vH:=vh,H:=lh,vT:=vt,left:=lft,T:=lt,vS:=vs,S:=ls}) (G':=KSl {y with hsz:=hx,vH:=vh,H:=lh,vT:=vt,left:=lft,T:=lt,vS:=vs,S:=ls}) rfl rfl rfl hvs .a1 (by rfl) (by rfl) (zO _) (fun X W h=>{h.1 with S:=h.2}) ?_;clear k;intro W k);refine zd (qb (by kernel_rfl)) ?_;refine zv (by kernel_rfl) ?_ _;clear HPer;go_wp2_with((with_reducible refine zz ?_);refine ld1 k rfl rfl .a1 (by rfl) ?_);have hPO:=OKY.out.P.adopt hp;refine(adopt_any _ y.P pid 1 _ _ k.out.fact.P OKY.out.P.ty (by have:=OKY.out.P.len;omega) k.out.lt (by decide) (by decide)).mono ?_;rintro e W1 ⟨v4,rfl,hl4,hb⟩;have hv4:=hl4.one;replace k:=zj ((k.out.call hb).add hl4 (zb _ _ _));clear hb hl4;have OK2:Hid (KOk n s m {y with hsz:=hx,vH:=vh,H:=lh,vT:=vt,left:=lft,T:=lt,vS:=vs,S:=ls,vP:=v4,P:=y.P.map (adopt pid 1)}):={OKY.out with P:=hPO,H:=hh2,Hl:=Nat.le_trans hh3 OKY.out.Hl,hsz:=⟨hh4,hh5⟩,T:=(fun q hq=>(ht2 q hq).elim (OKY.out.T q) (fun e=>e▸⟨1,rfl,by decide⟩)),Tl:=Nat.le_trans ht3 OKY.out.Tl,S:=hs2,Sl:=Nat.le_trans hs3 OKY.out.Sl};have hpid:xh (y.P.map (adopt pid 1))=xh x.P:=by rw[pids_adopt OKY.out.P,hyP]
    go_upto_region 12 with(first|((with_reducible refine zx ?_);refine yE k (E:=KC {y with hsz:=hx,vH:=vh,H:=lh,vT:=vt,left:=lft,T:=lt,vS:=vs,S:=ls,vP:=v4,P:=y.P.map (adopt pid 1)}) (G':=KSl {y with hsz:=hx,vH:=vh,H:=lh,vT:=vt,left:=lft,T:=lt,vS:=vs,S:=ls,vP:=v4,P:=y.P.map (adopt pid 1)}) rfl rfl rfl hv4 .a1 (by rfl) (by rfl) (zO _) (fun X W h=>{h.1 with P:=h.2}) ?_;clear k;intro W k)|fail)
    obtain⟨y2,hy2⟩: ∃y2:Kn,y2={y with hsz:=hx,vH:=vh,H:=lh,vT:=vt,left:=lft,T:=lt,vS:=vs,S:=ls,vP:=v4,P:=y.P.map (adopt pid 1)}:=⟨_,rfl⟩;replace k:Hid (St _ _ _ [(_,r1,_),(_,KC {y with hsz:=hx,vH:=vh,H:=lh,vT:=vt,left:=lft,T:=lt,vS:=vs,S:=ls,vP:=v4,P:=y.P.map (adopt pid 1)},_)] (KSl {y with hsz:=hx,vH:=vh,H:=lh,vT:=vt,left:=lft,T:=lt,vS:=vs,S:=ls,vP:=v4,P:=y.P.map (adopt pid 1)}) _ _):=k;rw[<-hy2] at k OK2;have REL2:Hid (KRel x y2):=by rw[hy2];exact⟨REL.out.Im,REL.out.Ou,REL.out.Is,REL.out.now⟩
    have hp2:xh y2.P=xh x.P:=by rw[hy2];exact hpid
    have hw2:y2.want=x.want:=by rw[hy2];exact hyw
    clear hy2 hh2 hh3 hh4 hh5 ht2 ht3 hs2 hs3 hpid hPO OKY REL hyP hyg hyw hyt;have HPer:=Lib.hid k.out.per;refine zt k 12 14 (by kernel_rfl) rfl ?_;clear k;intro W k;refine zq [(0,some 118,[12]),(1,some 119,[12]),(2,some 120,[12]),(3,some 121,[12]),(4,some 122,[12]),(5,some 123,[12]),(6,some 124,[12])] [?v15_0,?v15_1,?v15_2,?v15_3,?v15_4,?v15_5,?v15_6] 7 (by kernel_rfl) ⟨_,k.out⟩ ?l15 ?h15;case l15=>
     intro w' hSw;iterate 7
      refine lkw rfl rfl (by rfl) ?_ ?_
      ·first|((with_reducible refine yw ?_);first|exact hSw.l1 rfl rfl (by repeat constructor) (by first|rfl|assumption))|(go_simp<;>with_reducible rfl)
      try simp only[Act.put,tS,t0,t1]
     trivial
    simp only[zw,zk,Act.put,tS,t0,t1];refine yI (i:=7) (j:=11) (fuel:=6) (by kernel_rfl) rfl rfl ?_ ?_
    ·go_wp2_with fail
     refine(jk _ y2.P (ym r) _ _ k.out.fact.P OK2.out.P.ty).mono ?_;rintro e W1 ⟨r2,b2,rfl,hr2,hg1,hg2,hb⟩;have hrs2:r2.size=26:=hr2.size;have hro2:=hr2.one;replace k:=zj (k.out.call hb);clear hb;go_wp2_with fail;refine zd (yz ⟨_,k.out⟩) ?_;refine zq [(8,some 117,[12]),(9,some 126,[12])] [?v16_8,?v16_9] 4 (by kernel_rfl) ⟨_,k.out⟩ ?l16 ?h16;case l16=>
      intro w' hSw;iterate 2
       refine lkw rfl rfl (by rfl) ?_ ?_
       ·go_simp<;>with_reducible rfl
       try simp only[Act.put,tS,t0,t1]
      trivial
     simp only[zw,zk,Act.put,tS,t0,t1];refine zU [(10,some 127,[])] [?v17_10] 3 (by kernel_rfl) (.inl ⟨_,k.out⟩) ?l17 ?h17;case l17=>
      intro w';refine lkw rfl rfl (by rfl) ?_ ?_
      ·go_simp<;>with_reducible rfl
      try simp only[Act.put,tS,t0,t1]
      trivial
     simp only[zw,zk,Act.put,tS,t0,t1];refine w1 11 2 (by kernel_rfl) rfl ?_;go_wp2_with((with_reducible refine zf ?_);refine ala k Tryz.zeroValue132 ?_;clear k;intro bq X W k);refine zd (yz ⟨_,k.out.drop (n:=1)⟩) ?_;refine w1 12 1 (by kernel_rfl) rfl ?_;go_wp2_with((with_reducible refine zx ?_);refine soa k rfl rfl rfl .a0 (by assumption) (by rfl) (by assumption) ?_;clear k;intro W k);refine zd (zJ rfl) ?_;refine zU [(13,some 13,[])] [?v18_13] 0 (by kernel_rfl) (.inr (by kernel_rfl)) ?l18 ?h18;case l18=>
      intro w';refine lkw rfl rfl (by rfl) ?_ ?_
      ·go_simp<;>with_reducible rfl
      try simp only[Act.put,tS,t0,t1]
      trivial
     simp only[zw,zk,Act.put,tS,t0,t1];refine zv (by kernel_rfl) ?_ _;clear HPer;replace k:Hid (St _ _ _ [(_,r2,_),(_,r1,_),(_,KC y2,_)] (KSl y2) _ _):=k;have e2:r2.toList[2]? =some (.int .i64 (qV r2)):=by rw[Array.getElem?_toList];exact xq hr2 2 rfl
     cases b2 with
     |false=>
      go_wp2_with(first|((with_reducible refine zp ?_);first|go_big_skip)|((with_reducible refine zz ?_);refine ld1 k rfl rfl .a2 (by rfl) ?_));refine(gQ _ y2.P pid _ _ k.out.fact.P OK2.out.P.ty (by have:=OK2.out.P.len;omega)).mono ?_;rintro e W1 ⟨v5,rfl,hown,hb⟩;have hv5:=xu hown;have hPO:=OK2.out.P.filter (fun q=> !xQ pid q);have hf:=zV hown (fun q hq=>(hPO.ty q hq).size) k.out.lt;replace k:=zj ((k.out.call hb).add hf (zb _ _ _));clear hown hb hf;go_wp2_with(first|((with_reducible refine zx ?_);refine yE k (E:=KC {y2 with vP:=v5,P:=y2.P.filter fun q=> !xQ pid q}) (G':=KSl {y2 with vP:=v5,P:=y2.P.filter fun q=> !xQ pid q}) rfl rfl rfl hv5 .a2 (by rfl) (by rfl) (zO _) (fun X W h=>{h.1 with P:=h.2}) ?_;clear k;intro W k)|fail);exact bodyPost_ret (results_none rfl _) rfl (k.out.kpost (x':={y2 with vP:=v5,P:=y2.P.filter fun q=> !xQ pid q}) 2 rfl HB.out k.out.fact {OK2.out with P:=hPO} ⟨REL2.out.Im,REL2.out.Ou,REL2.out.Is,REL2.out.now⟩ ⟨rfl,hw2,fun _ q hq hne=>gz (by rw[hp2];exact hq) hne⟩)
     |true=>
      have hfound:pid∈xh x.P/\zX r=pid:=by
       cases b with
       |true=>exact⟨qy.2 ⟨r,(hf1 rfl).1,(hf1 rfl).2⟩,(hf1 rfl).2⟩
       |false=>
        have h3:=hg1 rfl;have h4:=OK2.out.P.pid r2 h3.1;have h5:=(hf2 rfl).2.2.1;omega
      have hrpar:0<=ym r/\ym r<zX r:=by
       cases b with
       |true=>exact OK.out.P.par r (hf1 rfl).1
       |false=>
        have h3:=hg1 rfl;have h4:=OK2.out.P.pid r2 h3.1;have h5:=(hf2 rfl).2.2.1;omega
      clear hf1 hf2 hg1 hg2;by_cases hst2:qV r2=4
      ·rw[hst2] at e2
       clear hst2;go_wp2_with(first|((with_reducible refine zp ?_);first|refine zg rfl rfl rfl (by with_reducible rfl) ?_)|((with_reducible refine zz ?_);refine ld1 k rfl rfl (by repeat constructor) (by first|rfl|assumption) ?_));refine(gQ _ y2.P pid _ _ k.out.fact.P OK2.out.P.ty (by have:=OK2.out.P.len;omega)).mono ?_;rintro e W1 ⟨v5,rfl,hown,hb⟩;have hv5:=xu hown;have hPO:=OK2.out.P.filter (fun q=> !xQ pid q);have hf:=zV hown (fun q hq=>(hPO.ty q hq).size) k.out.lt;replace k:=zj ((k.out.call hb).add hf (zb _ _ _));clear hown hb hf;go_wp2_with(first|((with_reducible refine zx ?_);refine yE k (E:=KC {y2 with vP:=v5,P:=y2.P.filter fun q=> !xQ pid q}) (G':=KSl {y2 with vP:=v5,P:=y2.P.filter fun q=> !xQ pid q}) rfl rfl rfl hv5 .a2 (by rfl) (by rfl) (zO _) (fun X W h=>{h.1 with P:=h.2}) ?_;clear k;intro W k)|fail);exact bodyPost_ret (results_none rfl _) rfl (k.out.kpost (x':={y2 with vP:=v5,P:=y2.P.filter fun q=> !xQ pid q}) 2 rfl HB.out k.out.fact {OK2.out with P:=hPO} ⟨REL2.out.Im,REL2.out.Ou,REL2.out.Is,REL2.out.now⟩ ⟨rfl,hw2,fun _ q hq hne=>gz (by rw[hp2];exact hq) hne⟩)
      ·have n4: ¬(qV r2=4):=hst2
       have d4:(qV r2==4)=false:=by rw[beq_eq_false_iff_ne];exact hst2
       obtain⟨hT2,hq0,hq1⟩:=dead_set HT.out hc0 hc1;obtain⟨hrm,hrp⟩:=hfound;have hf2:Nat.blt 2 r1.size=true:=by rw[hrs1];rfl
       have hf13:Nat.blt 13 (r1.setIfInBounds 2 (.int .i64 4)).size=true:=by rw[Array.size_setIfInBounds,hrs1];rfl
       go_upto_region 16 with(first|((with_reducible refine zp ?_);first|refine zg rfl rfl rfl (by with_reducible rfl) ?_)|((with_reducible refine zz ?_);refine ld1 k rfl rfl .a0 (by assumption) ?_)|((with_reducible refine zx ?_);refine so1 k rfl rfl rfl (by rfl) .a1 (by assumption) rfl ?_;clear k;intro W k))
       replace k:Hid (St _ _ _ [(_,_,_),(_,(r1.setIfInBounds 2 (.int .i64 4)).setIfInBounds 13 (.int .i64 code),_),(_,KC y2,_)] (KSl y2) _ _):=k;have hin:zX ((r1.setIfInBounds 2 (.int .i64 4)).setIfInBounds 13 (.int .i64 code))∈xh y2.P:=by rw[hq0,hpi,hrp,hp2];exact hrm
       have hPO:=OK2.out.P.put hT2 hin (by rw[hq0,hq1,hpi,hpa];exact hrpar);have hpp:=gJ hin;generalize (r1.setIfInBounds 2 (.int .i64 4)).setIfInBounds 13 (.int .i64 code)=r3 at k hT2 hPO hpp;have hrs3:r3.size=26:=hT2.size;have HT3:=Lib.hid hT2;clear hT2 hf2 hf13;generalize hlP:jV y2.P r3=lP at hPO hpp;have HPer:=Lib.hid k.out.per;refine zt k 11 12 (by kernel_rfl) rfl ?_;clear k;intro W k;refine zq [(0,some 149,[11]),(1,some 150,[11]),(2,some 151,[11]),(3,some 152,[11]),(4,some 153,[11]),(5,some 154,[11]),(6,some 155,[11])] [?v19_0,?v19_1,?v19_2,?v19_3,?v19_4,?v19_5,?v19_6] 5 (by kernel_rfl) ⟨_,k.out⟩ ?l19 ?h19;case l19=>
        intro w' hSw;iterate 7
         refine lkw rfl rfl (by rfl) ?_ ?_
         ·first|((with_reducible refine yw ?_);first|exact hSw.l1 rfl rfl (by repeat constructor) (by rfl)|exact hSw.la rfl rfl .a1 (by assumption) (by rfl))|(go_simp<;>with_reducible rfl)
         try simp only[Act.put,tS,t0,t1]
        trivial
       simp only[zw,zk,Act.put,tS,t0,t1];refine w1 7 4 (by kernel_rfl) rfl ?_;go_wp2_with fail;refine(vj _ y2.P r3 _ _ k.out.fact.P OK2.out.P.ty HT3.out (by have:=OK2.out.P.len;omega)).mono ?_;rw[hlP];rintro e W1 ⟨v1,rfl,hown,hb⟩;have hv1:=xu hown;have hf:=zV hown (fun q hq=>(hPO.ty q hq).size) k.out.lt;replace k:=zj (k.out.call hb);clear hown hb;go_wp2_with fail;refine zd (yz ⟨_,k.out⟩) ?_;refine zq [(8,some 157,[9,10,11]),(9,some 158,[10,11]),(10,some 159,[11])] [?v20_8,?v20_9,?v20_10] 1 (by kernel_rfl) ⟨_,k.out⟩ ?l20 ?h20;case l20=>
        intro w' hSw;iterate 3
         refine lkw rfl rfl (by rfl) ?_ ?_
         ·go_simp<;>with_reducible rfl
         try simp only[Act.put,tS,t0,t1]
        trivial
       simp only[zw,zk,Act.put,tS,t0,t1];refine w1 11 0 (by kernel_rfl) rfl ?_;replace k:=zj (k.out.add hf (zb _ _ _));clear hf;go_wp2_with((with_reducible refine zx ?_);refine yE k (E:=KC {y2 with vP:=v1,P:=lP}) (G':=KSl {y2 with vP:=v1,P:=lP}) rfl rfl rfl hv1 .a2 (by rfl) (by rfl) (zO _) (fun X W h=>{h.1 with P:=h.2}) ?_;clear k;intro W k);refine zd (zJ rfl) ?_;refine zv (by kernel_rfl) ?_ _;clear HPer;go_wp2_with fail;exact bodyPost_ret (results_none rfl _) rfl (k.out.kpost (x':={y2 with vP:=v1,P:=lP}) 2 rfl HB.out k.out.fact {OK2.out with P:=hPO} ⟨REL2.out.Im,REL2.out.Ou,REL2.out.Is,REL2.out.now⟩ ⟨rfl,hw2,fun _ q hq _=>by rw[hpp,hp2];exact hq⟩)
    ·go_wp2_with((with_reducible refine zf ?_);refine ala k Tryz.zeroValue132 ?_;clear k;intro bq X W k)
     refine zd (yz ⟨_,k.out.drop (n:=1)⟩) ?_;refine w1 7 5 (by kernel_rfl) rfl ?_;go_wp2_with fail;refine(jk _ y2.P (ym r) _ _ k.out.fact.P OK2.out.P.ty).mono ?_;rintro e W1 ⟨r2,b2,rfl,hr2,hg1,hg2,hb⟩;have hrs2:r2.size=26:=hr2.size;have hro2:=hr2.one;replace k:=zj (k.out.call hb);clear hb;go_wp2_with fail;refine zd (yz ⟨_,k.out.drop (n:=1)⟩) ?_;refine zq [(8,some 117,[12]),(9,some 126,[12])] [?v21_8,?v21_9] 3 (by kernel_rfl) ⟨_,k.out.drop (n:=1)⟩ ?l21 ?h21;case l21=>
      intro w' hSw;iterate 2
       refine lkw rfl rfl (by rfl) ?_ ?_
       ·go_simp<;>with_reducible rfl
       try simp only[Act.put,tS,t0,t1]
      trivial
     simp only[zw,zk,Act.put,tS,t0,t1];refine zU [(10,some 127,[])] [?v22_10] 2 (by kernel_rfl) (.inl ⟨_,k.out.drop (n:=1)⟩) ?l22 ?h22;case l22=>
      intro w';refine lkw rfl rfl (by rfl) ?_ ?_
      ·go_simp<;>with_reducible rfl
      try simp only[Act.put,tS,t0,t1]
      trivial
     simp only[zw,zk,Act.put,tS,t0,t1];refine w1 12 1 (by kernel_rfl) rfl ?_;go_wp2_with((with_reducible refine zx ?_);refine soa k rfl rfl rfl .a0 (by assumption) (by rfl) (by assumption) ?_;clear k;intro W k);refine zd (zJ rfl) ?_;refine zU [(13,some 13,[])] [?v23_13] 0 (by kernel_rfl) (.inr (by kernel_rfl)) ?l23 ?h23;case l23=>
      intro w';refine lkw rfl rfl (by rfl) ?_ ?_
      ·go_simp<;>with_reducible rfl
      try simp only[Act.put,tS,t0,t1]
      trivial
     simp only[zw,zk,Act.put,tS,t0,t1];refine zv (by kernel_rfl) ?_ _;clear HPer;replace k:Hid (St _ _ _ [(_,r2,_),(_,r1,_),(_,KC y2,_)] (KSl y2) _ _):=k;have e2:r2.toList[2]? =some (.int .i64 (qV r2)):=by rw[Array.getElem?_toList];exact xq hr2 2 rfl
     cases b2 with
     |false=>
      go_wp2_with(first|((with_reducible refine zp ?_);first|go_big_skip)|((with_reducible refine zz ?_);refine ld1 k rfl rfl .a2 (by rfl) ?_));refine(gQ _ y2.P pid _ _ k.out.fact.P OK2.out.P.ty (by have:=OK2.out.P.len;omega)).mono ?_;rintro e W1 ⟨v5,rfl,hown,hb⟩;have hv5:=xu hown;have hPO:=OK2.out.P.filter (fun q=> !xQ pid q);have hf:=zV hown (fun q hq=>(hPO.ty q hq).size) k.out.lt;replace k:=zj ((k.out.call hb).add hf (zb _ _ _));clear hown hb hf;go_wp2_with(first|((with_reducible refine zx ?_);refine yE k (E:=KC {y2 with vP:=v5,P:=y2.P.filter fun q=> !xQ pid q}) (G':=KSl {y2 with vP:=v5,P:=y2.P.filter fun q=> !xQ pid q}) rfl rfl rfl hv5 .a2 (by rfl) (by rfl) (zO _) (fun X W h=>{h.1 with P:=h.2}) ?_;clear k;intro W k)|fail);exact bodyPost_ret (results_none rfl _) rfl (k.out.kpost (x':={y2 with vP:=v5,P:=y2.P.filter fun q=> !xQ pid q}) 2 rfl HB.out k.out.fact {OK2.out with P:=hPO} ⟨REL2.out.Im,REL2.out.Ou,REL2.out.Is,REL2.out.now⟩ ⟨rfl,hw2,fun _ q hq hne=>gz (by rw[hp2];exact hq) hne⟩)
     |true=>
      have hfound:pid∈xh x.P/\zX r=pid:=by
       cases b with
       |true=>exact⟨qy.2 ⟨r,(hf1 rfl).1,(hf1 rfl).2⟩,(hf1 rfl).2⟩
       |false=>
        have h3:=hg1 rfl;have h4:=OK2.out.P.pid r2 h3.1;have h5:=(hf2 rfl).2.2.1;omega
      have hrpar:0<=ym r/\ym r<zX r:=by
       cases b with
       |true=>exact OK.out.P.par r (hf1 rfl).1
       |false=>
        have h3:=hg1 rfl;have h4:=OK2.out.P.pid r2 h3.1;have h5:=(hf2 rfl).2.2.1;omega
      clear hf1 hf2 hg1 hg2;by_cases hst2:qV r2=4
      ·rw[hst2] at e2
       clear hst2;go_wp2_with(first|((with_reducible refine zp ?_);first|refine zg rfl rfl rfl (by with_reducible rfl) ?_)|((with_reducible refine zz ?_);refine ld1 k rfl rfl (by repeat constructor) (by first|rfl|assumption) ?_));refine(gQ _ y2.P pid _ _ k.out.fact.P OK2.out.P.ty (by have:=OK2.out.P.len;omega)).mono ?_;rintro e W1 ⟨v5,rfl,hown,hb⟩;have hv5:=xu hown;have hPO:=OK2.out.P.filter (fun q=> !xQ pid q);have hf:=zV hown (fun q hq=>(hPO.ty q hq).size) k.out.lt;replace k:=zj ((k.out.call hb).add hf (zb _ _ _));clear hown hb hf;go_wp2_with(first|((with_reducible refine zx ?_);refine yE k (E:=KC {y2 with vP:=v5,P:=y2.P.filter fun q=> !xQ pid q}) (G':=KSl {y2 with vP:=v5,P:=y2.P.filter fun q=> !xQ pid q}) rfl rfl rfl hv5 .a2 (by rfl) (by rfl) (zO _) (fun X W h=>{h.1 with P:=h.2}) ?_;clear k;intro W k)|fail);exact bodyPost_ret (results_none rfl _) rfl (k.out.kpost (x':={y2 with vP:=v5,P:=y2.P.filter fun q=> !xQ pid q}) 2 rfl HB.out k.out.fact {OK2.out with P:=hPO} ⟨REL2.out.Im,REL2.out.Ou,REL2.out.Is,REL2.out.now⟩ ⟨rfl,hw2,fun _ q hq hne=>gz (by rw[hp2];exact hq) hne⟩)
      ·have n4: ¬(qV r2=4):=hst2
       have d4:(qV r2==4)=false:=by rw[beq_eq_false_iff_ne];exact hst2
       obtain⟨hT2,hq0,hq1⟩:=dead_set HT.out hc0 hc1;obtain⟨hrm,hrp⟩:=hfound;have hf2:Nat.blt 2 r1.size=true:=by rw[hrs1];rfl
       have hf13:Nat.blt 13 (r1.setIfInBounds 2 (.int .i64 4)).size=true:=by rw[Array.size_setIfInBounds,hrs1];rfl
       go_upto_region 16 with(first|((with_reducible refine zp ?_);first|refine zg rfl rfl rfl (by with_reducible rfl) ?_)|((with_reducible refine zz ?_);refine ld1 k rfl rfl .a0 (by assumption) ?_)|((with_reducible refine zx ?_);refine so1 k rfl rfl rfl (by rfl) .a1 (by assumption) rfl ?_;clear k;intro W k))
       replace k:Hid (St _ _ _ [(_,_,_),(_,(r1.setIfInBounds 2 (.int .i64 4)).setIfInBounds 13 (.int .i64 code),_),(_,KC y2,_)] (KSl y2) _ _):=k;have hin:zX ((r1.setIfInBounds 2 (.int .i64 4)).setIfInBounds 13 (.int .i64 code))∈xh y2.P:=by rw[hq0,hpi,hrp,hp2];exact hrm
       have hPO:=OK2.out.P.put hT2 hin (by rw[hq0,hq1,hpi,hpa];exact hrpar);have hpp:=gJ hin;generalize (r1.setIfInBounds 2 (.int .i64 4)).setIfInBounds 13 (.int .i64 code)=r3 at k hT2 hPO hpp;have hrs3:r3.size=26:=hT2.size;have HT3:=Lib.hid hT2;clear hT2 hf2 hf13;generalize hlP:jV y2.P r3=lP at hPO hpp;have HPer:=Lib.hid k.out.per;refine zt k 11 12 (by kernel_rfl) rfl ?_;clear k;intro W k;refine zq [(0,some 149,[11]),(1,some 150,[11]),(2,some 151,[11]),(3,some 152,[11]),(4,some 153,[11]),(5,some 154,[11]),(6,some 155,[11])] [?v24_0,?v24_1,?v24_2,?v24_3,?v24_4,?v24_5,?v24_6] 5 (by kernel_rfl) ⟨_,k.out⟩ ?l24 ?h24;case l24=>
        intro w' hSw;iterate 7
         refine lkw rfl rfl (by rfl) ?_ ?_
         ·first|((with_reducible refine yw ?_);first|exact hSw.l1 rfl rfl (by repeat constructor) (by rfl)|exact hSw.la rfl rfl .a1 (by assumption) (by rfl))|(go_simp<;>with_reducible rfl)
         try simp only[Act.put,tS,t0,t1]
        trivial
       simp only[zw,zk,Act.put,tS,t0,t1];refine w1 7 4 (by kernel_rfl) rfl ?_;go_wp2_with fail;refine(vj _ y2.P r3 _ _ k.out.fact.P OK2.out.P.ty HT3.out (by have:=OK2.out.P.len;omega)).mono ?_;rw[hlP];rintro e W1 ⟨v1,rfl,hown,hb⟩;have hv1:=xu hown;have hf:=zV hown (fun q hq=>(hPO.ty q hq).size) k.out.lt;replace k:=zj (k.out.call hb);clear hown hb;go_wp2_with fail;refine zd (yz ⟨_,k.out⟩) ?_;refine zq [(8,some 157,[9,10,11]),(9,some 158,[10,11]),(10,some 159,[11])] [?v25_8,?v25_9,?v25_10] 1 (by kernel_rfl) ⟨_,k.out⟩ ?l25 ?h25;case l25=>
        intro w' hSw;iterate 3
         refine lkw rfl rfl (by rfl) ?_ ?_
         ·go_simp<;>with_reducible rfl
         try simp only[Act.put,tS,t0,t1]
        trivial
       simp only[zw,zk,Act.put,tS,t0,t1];refine w1 11 0 (by kernel_rfl) rfl ?_;replace k:=zj (k.out.add hf (zb _ _ _));clear hf;go_wp2_with((with_reducible refine zx ?_);refine yE k (E:=KC {y2 with vP:=v1,P:=lP}) (G':=KSl {y2 with vP:=v1,P:=lP}) rfl rfl rfl hv1 .a2 (by rfl) (by rfl) (zO _) (fun X W h=>{h.1 with P:=h.2}) ?_;clear k;intro W k);refine zd (zJ rfl) ?_;refine zv (by kernel_rfl) ?_ _;clear HPer;go_wp2_with fail;exact bodyPost_ret (results_none rfl _) rfl (k.out.kpost (x':={y2 with vP:=v1,P:=lP}) 2 rfl HB.out k.out.fact {OK2.out with P:=hPO} ⟨REL2.out.Im,REL2.out.Ou,REL2.out.Is,REL2.out.now⟩ ⟨rfl,hw2,fun _ q hq _=>by rw[hpp,hp2];exact hq⟩)
end Go.Proofs.YtaccidkgnkmagaaGreatDoor.Top
