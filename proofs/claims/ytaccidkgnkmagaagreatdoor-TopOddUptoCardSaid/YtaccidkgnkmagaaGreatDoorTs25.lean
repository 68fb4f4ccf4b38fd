/-
  Walks and laws of the whole machine: Win2, At, Draw, Starts, Count. Conditions: each theorem names its own.
-/
import Derived.Test.YtaccidkgnkmagaaGreatDoorTs24
import Derived.OrdersIn
set_option maxRecDepth 16000
set_option maxHeartbeats 12800000
set_option linter.unusedVariables false
set_option linter.unusedSimpArgs false
namespace Go.Proofs.YtaccidkgnkmagaaGreatDoor.Top
section
open Go.RowKit
attribute [local go_sem] Oper.semAt_some
def xy(fr:Int)(lP:List (Array Value))(wl:List (List (Array Value)))(lC:List (Array Value))(s:Int):List (Array Value):=
 if yv fr lP wl lC≠0 then[] else if s<0 then[] else(wl[s.toNat]?).getD []
def zWin:Array Value:= #[.int .i64 0,.int .i64 0,.int .i64 0]
theorem pwins_in(n L Bt Bp:Nat)(vP:Value)(lP:List (Array Value))(fr:Int)(vW:Value)(lW:List (Array Value))(wl:List (List (Array Value)))(vC:Value)(lC:List (Array Value))(s:Int)(J:Nat->World->Prop)(JS:World->Prop)
  (hT:ZJ lP wl lC) (hf0: -9223372036854775808<=fr) (hf1:fr<=9223372036854775807)
  (hJ1: ∀k W,J k W->Blk W Bt (PLC vP fr vW vC) 26/\Blk W Bp #[.int .i64 s] 3/\vw vP lP vW lW wl vC lC (fun _=>False) W)
  (hJ2: ∀k W W',J k W->Below W.heap.size W W'->J k W')
  (hY: ∀k r W,J k W->(xy fr lP wl lC s)[k]? =some r->YieldAt Fence.wide (n-1) Tryz.prog L #[.agg r] W fun e W'=> ∃b,e= .returned (.bool b)/\(b=true->J (k+1) W')/\(b=false->JS W'))
  (W:World) (h0:J 0 W):
  CallsIn Fence.wide n Tryz.prog 56 #[.func (.yield L) #[] #[],.pointer (some ⟨Bt,0,none⟩),.pointer (some ⟨Bp,0,none⟩)] W fun e W'=>(∃v,e= .returned v)/\(J (xy fr lP wl lC s).length W' \/JS W'):=by
 have HJ1:=zj hJ1;have HJ2:=zj hJ2;have HY:=zj hY;have HT:=Lib.hid hT;obtain⟨a1,a2,a3⟩:=hJ1 _ _ h0;have hwl:=a3.2.2.1.1;obtain⟨AW,cW,eW,_,_⟩:=a3.2.1.len;rw[hwl] at eW;subst eW;have HWL:=Lib.hid hwl;have hPl:=hT.Wl;clear hJ1 hJ2 hY hT hwl;have H0:=zj h0;clear h0;have b1:=a2.rules.1 0;have b2:=a1.rules.1 2;change _=some (Value.int .i64 s) at b1;change _=some (Value.slice AW wl.length cW) at b2;have A1:=Lib.hid a1;have A2:=Lib.hid a2;have A3:=Lib.hid a3;clear a1 a2 a3;refine callsIn_of_wp Tryz.func56 rfl trivial ?_ rfl;simp only[Tryz.ntmps56,List.size_toArray,List.length_cons,List.length_nil,Nat.reduceAdd,Nat.reduceSub,Array.replicate_succ,Array.replicate_zero,List.push_toArray,List.append_toArray,List.nil_append,List.cons_append]
 gi_wp2_with (refine jz rfl (fun _ h=>by cases h) ?_;refine zZ rfl (.tmp 1) 26 rfl Bt 0 4 rfl (PLC vP fr (.slice AW wl.length cW) vC) (Tryz.isAgg26 _) (Tryz.sizeOf26 _) rfl (fun j u hj=>by rw[Nat.zero_add];exact(A1.out.rules.1 j).trans hj) ?_;refine yp ?_)
 refine⟨trivial,(fun h=>by cases h),?_⟩;refine(callsIn_wide.2 (pcheck_any _ _ _ _ _ _ _ _ _ _ (fun _ h=>h.elim) A3.out HT.out hf0 hf1)).mono ?_;rintro e W1 ⟨rfl,hb⟩;have c1:=(hb.cell (p:=⟨Bp,0,none⟩) A2.out.lt).trans b1;have c2:=(hb.cell (p:=⟨Bt,2,none⟩) A1.out.lt).trans b2;have HJ0:=zj (HJ2.out _ _ W1 H0.out hb);clear b1 b2 hb A1 A2 A3 H0;have hsel:Hid (xy fr lP wl lC s=if yv fr lP wl lC≠0 then[] else if s<0 then[] else(wl[s.toNat]?).getD []):=rfl;obtain⟨l,hll⟩: ∃l,xy fr lP wl lC s=l:=⟨_,rfl⟩;rw[hll] at hsel HY;have HLL:=Lib.hid hll;clear hll;generalize yv fr lP wl lC=E at*;by_cases hE:E=0
 ·subst hE
  by_cases h1:s<0
  ·have d1:decide (s<0)=true:=decide_eq_true h1
   have e1:l=[]:=by rw[hsel.out,if_neg (by decide),if_pos h1]
   subst e1
   gi_wp2_with fail
   exact bodyPost_ret (results_none rfl _) rfl ⟨⟨_,rfl⟩,.inl (by rw[HLL.out];exact HJ0.out)⟩
  ·have d1:decide (s<0)=false:=decide_eq_false h1
   obtain⟨ks,rfl⟩: ∃ks:Nat,s=ks:=⟨s.toNat,by omega⟩;by_cases h2:wl.length<=ks
   ·have d2:decide ((wl.length:Int)<=ks)=true:=decide_eq_true (by omega)
    have e1:l=[]:=by
     rw[hsel.out,if_neg (by decide),if_neg h1,Int.toNat_natCast,List.getElem?_eq_none h2];rfl
    subst e1
    gi_wp2_with fail
    exact bodyPost_ret (results_none rfl _) rfl ⟨⟨_,rfl⟩,.inl (by rw[HLL.out];exact HJ0.out)⟩
   ·have d2:decide ((wl.length:Int)<=ks)=false:=decide_eq_false (by omega)
    have hks:ks<wl.length:=by omega
    obtain⟨r0,hr0⟩: ∃r0,lW[ks]? =some r0:=⟨_,List.getElem?_eq_getElem (by rw[HWL.out];exact hks)⟩;have hl:wl[ks]? =some l:=by
     rw[hsel.out,if_neg (by decide),if_neg h1,Int.toNat_natCast,List.getElem?_eq_getElem hks];rfl
    obtain⟨q1,q2,q3⟩:=HJ1.out _ _ HJ0.out;obtain⟨A,c,rfl,_⟩:=q3.2.2.1.2 ks r0 l hr0 hl;obtain⟨bw,ow,eA,_,_,_,hcw⟩:=q3.2.1.row hr0 (by decide);subst eA;have c3:W1.cell? ⟨bw,ow+ks,none⟩=some (.slice A l.length c):=by
     have:=hcw 0 _ rfl;simpa using this
    have HRW:=Lib.hid hr0;have HLW:=Lib.hid hl;have hl20:=HT.out.wl l (List.mem_of_getElem? hl);have HLT:Hid (∀r∈l,Ty kWin r):=HT.out.W l (List.mem_of_getElem? hl);clear q1 q2 q3 hcw hr0 hl hsel
    gi_wp2_with fail
    clear c1 c2 c3
    gi_loopw [26] (fun i wr=> ∃k:Nat,k<=l.length/\i= .int .i64 k/\Hid (J k wr)) (fun i _=>l.length-(intOf i).toNat)
    case atStart=>exact⟨0,Nat.zero_le _,rfl,HJ0⟩
    case round=>
     obtain⟨k,hk,rfl,hJ⟩:=hrel;by_cases hlt:k<l.length
     ·obtain⟨r,hr⟩: ∃r,l[k]? =some r:=⟨l[k],List.getElem?_eq_getElem hlt⟩
      have hsl:Sl 3 (.slice A l.length c) l (fun _=>False) wr:=(HJ1.out _ _ hJ.out).2.2.2.2.1.at HRW.out HLW.out;have hrt:=HLT.out r (List.mem_of_getElem? hr);have HRS:Hid (r.size=3):=hrt.size;have HT3:=Lib.hid hrt;obtain⟨b,o,eb,_,_,_,hcell⟩:=hsl.row hr (by decide);have HC:=Lib.hid hcell;have HR:=Lib.hid hr;clear hr hrt hcell hsl;subst eb
      gi_wp2_with (first|(refine jz rfl (fun _ h=>by cases h) ?_;refine zZ rfl (.tmp 28) 61 rfl b _ 3 rfl r (Tryz.isAgg61 _) (Tryz.sizeOf61 _) HRS.out (fun j u hj=>by have:=HC.out j u hj;simpa using this) ?_;refine yp ?_)|(refine jz rfl (fun _ h=>by cases h) ?_;refine yJ rfl 61 rfl _ (Tryz.zeroValue61 _) ?_;intro W1 hk1 hb1 hz1;refine yp ?_)|(refine jz rfl (fun _ h=>by cases h) ?_;refine yX rfl (.tmp 5) (.tmp 29) 61 rfl wr.heap.size 0 rfl zWin 61 hk1 _ rfl r rfl (by rw[HRS.out];exact Tryz.sizeOf61 _) (by rw[HRS.out];decide) HT3.out.one ?_;intro W2 hk2 hb2 hz2 hg2;rw[xU zWin r HRS.out] at hk2;refine yp ?_)|(refine jz rfl (fun _ h=>by cases h) ?_;refine zZ rfl (.tmp 5) 61 rfl wr.heap.size 0 3 rfl r (Tryz.isAgg61 _) (Tryz.sizeOf61 _) HRS.out (fun j u hj=>by rw[Nat.zero_add];exact(hk2.rules.1 j).trans hj) ?_;refine yp ?_))
      have hJ2':=HJ2.out _ _ W2 hJ.out (hb1.trans hb2);obtain⟨fn,tmps,assign,body,hyl,hR⟩:=HY.out k r W2 hJ2' HR.out;have HRd:=zj hR;rw[hyl];clear hR hyl;refine⟨(fun h=>by cases h),?_⟩;refine HRd.out.mono ?_;rintro e W3 ⟨bb,rfl,hbt,hbf⟩;clear hk1 hb1 hk2 hb2 HRd;cases bb with
      |true=>
       have HBT:=zj (hbt rfl);clear hbt hbf
       gi_wp2_with fail
       exact⟨⟨k+1,by omega,by go_num,HBT⟩,by simp[intOf];omega⟩
      |false=>
       have HBF:=zj (hbf rfl);clear hbt hbf
       gi_wp2_with fail
       exact bodyPost_ret (results_none rfl _) rfl ⟨⟨_,rfl⟩,.inr HBF.out⟩
     ·obtain rfl:k=l.length:=by omega
      gi_wp2_with fail
      go_end0
      exact⟨⟨_,rfl⟩,.inl (by rw[HLL.out];exact hJ.out)⟩
 ·have dE:(E !=0)=true:=by rw[bne_iff_ne];exact hE
  have e1:l=[]:=by rw[hsel.out,if_pos hE]
  subst e1
  gi_wp2_with fail
  exact bodyPost_ret (results_none rfl _) rfl ⟨⟨_,rfl⟩,.inl (by rw[HLL.out];exact HJ0.out)⟩
end
section
open Go.RowKit
attribute [local go_sem] Oper.semAt_some
def atW(q:Int):List (Array Value)->Int×Int
 |[]=>(-1,0)
 |r::l=>if zQ r 1<=q/\q-zQ r 1<zQ r 2 then(zQ r 0,if q-zQ r 1<2 then 1 else 2) else atW q l
theorem atW_step{q:Int}{l:List (Array Value)}{j:Nat}{r:Array Value}(h:l[j]? =some r):atW q (l.drop j)=if zQ r 1<=q/\q-zQ r 1<zQ r 2 then(zQ r 0,if q-zQ r 1<2 then 1 else 2) else atW q (l.drop (j+1)):=by
 have hj:j<l.length:=(List.getElem?_eq_some_iff.1 h).1;have e:l.drop j=r::l.drop (j+1):=by
  rw[List.drop_eq_getElem_cons hj];congr 1;exact(List.getElem?_eq_some_iff.1 h).2
 rw[e,atW]
theorem wsE_all{np:Nat}{fr:Int}{l:List (Array Value)}{b:Int}(h:wsE np fr b l=0): ∀r∈l,0<=zQ r 0/\zQ r 0<np/\0<=zQ r 1/\2<zQ r 2/\zQ r 2<=fr/\zQ r 1<=fr-zQ r 2:=by
 induction l generalizing b with
 |nil=>intro r hr;cases hr
 |cons x l ih=>
  intro r hr;rw[wsE] at h;split at h
  ·contradiction
  ·rename_i h1
   rcases List.mem_cons.1 hr with rfl|hr
   ·have:=winE_ok (by simpa using h1)
    omega
   ·exact ih h r hr
theorem wssE_all{np:Nat}{fr:Int}{ls:List (List (Array Value))}(h:jY np fr ls=0): ∀l∈ls,wsE np fr 0 l=0:=by
 induction ls with
 |nil=>intro l hl;cases hl
 |cons x ls ih=>
  intro l hl;rw[jY] at h;split at h
  ·contradiction
  ·rename_i h1
   rcases List.mem_cons.1 hl with rfl|hl
   ·simpa using h1
   ·exact ih h l hl
theorem check_wss{fr:Int}{lP:List (Array Value)}{wl:List (List (Array Value))}{lC:List (Array Value)}(h:yv fr lP wl lC=0):jY lP.length fr wl=0/\1<=fr/\fr<=4096:=by
 unfold yv at h;split at h
 ·cases h
 ·split at h
  ·cases h
  ·split at h
   ·cases h
   ·rename_i h3
    split at h
    ·contradiction
    ·rename_i h4
     refine⟨by simpa using h4,?_,?_⟩
     ·exact Int.not_lt.1 fun hh=>h3 (.inr (.inl hh))
     ·exact Int.not_lt.1 fun hh=>h3 (.inr (.inr hh))
theorem gb{fr:Int}{lP:List (Array Value)}{wl:List (List (Array Value))}{lC:List (Array Value)}{s:Int}(hT:ZJ lP wl lC): ∀r∈xy fr lP wl lC s,Ty kWin r/\0<=zQ r 0/\zQ r 0<lP.length/\0<=zQ r 1/\2<zQ r 2/\zQ r 2<=fr/\zQ r 1<=fr-zQ r 2/\fr<=4096:=by
 intro r hr;unfold xy at hr;split at hr
 ·cases hr
 ·rename_i h1
  split at hr
  ·cases hr
  ·cases hw:wl[s.toNat]? with
   |none=>rw[hw] at hr;cases hr
   |some l=>
    rw[hw] at hr;change r∈l at hr;have hl:=List.mem_of_getElem? hw;obtain⟨h2,h3,h4⟩:=check_wss (by simpa using h1);have:=wsE_all (wssE_all h2 l hl) r hr;exact⟨hT.W l hl r hr,this.1,this.2.1,this.2.2.1,this.2.2.2.1,this.2.2.2.2.1,this.2.2.2.2.2,h4⟩
def WiG(vP:Value)(lP:List (Array Value))(fr:Int)(vW:Value)(lW:List (Array Value))(wl:List (List (Array Value)))(vC:Value)(lC:List (Array Value))(s:Int)(bt bp:Nat)(X:Nat->Prop)(W:World):Prop:=(vw vP lP vW lW wl vC lC X W/\RoB bt (PLC vP fr vW vC) 26 X W)/\RoB bp #[.int .i64 s] 3 X W
theorem wins_iter{vP:Value}{lP:List (Array Value)}{fr:Int}{vW:Value}{lW:List (Array Value)}{wl:List (List (Array Value))}{vC:Value}{lC:List (Array Value)}{s:Int}{bt bp n:Nat}{I:Nat->World->Prop}{IS:Code->World->Prop}{a:Act}{ps:Array Tmp}{assign body:Code}(hT:ZJ lP wl lC)(hf0: -9223372036854775808<=fr)(hf1:fr<=9223372036854775807)
  (h1: ∀k W,I k W->Blk W bt (PLC vP fr vW vC) 26/\Blk W bp #[.int .i64 s] 3/\vw vP lP vW lW wl vC lC (fun _=>False) W)
  (h2: ∀k W W',I k W->Below W.heap.size W W'->I k W'):
  ∀(fn:FuncId) (W:World),(∀k x W,(I k W/\Rec fn a ps assign body n .ready none W)->(xy fr lP wl lC s)[k]? =some x->YieldAt Fence.wide 7 Tryz.prog (n+1) #[Value.agg x] W fun e W'=> ∃b,e= .returned (.bool b)/\(b=true->I (k+1) W' /\Rec fn a ps assign body n .ready none W')/\(b=false-> ∃c,IS c W' /\Rec fn a ps assign body n .done (some c) W'))->
   (I 0 W/\Rec fn a ps assign body n .ready none W)->CallsIn Fence.wide 8 Tryz.prog 56 (#[.func (.yield (n+1)) #[] #[]]++ #[.pointer (some ⟨bt,0,none⟩),.pointer (some ⟨bp,0,none⟩)]) W fun e W'=>(∃v,e= .returned v)/\((I (xy fr lP wl lC s).length W' /\Rec fn a ps assign body n .ready none W')\/ ∃c,IS c W' /\Rec fn a ps assign body n .done (some c) W'):=by
 intro fn W hY hI;exact pwins_in 8 (n+1) bt bp vP lP fr vW lW wl vC lC s (fun k W=>I k W/\Rec fn a ps assign body n .ready none W) (fun W=> ∃c,IS c W/\Rec fn a ps assign body n .done (some c) W) hT hf0 hf1 (fun k W h=>h1 k W h.1) (fun k W W' h hb=>⟨h2 k W W' h.1 hb,h.2.below hb⟩) (fun k r W h hr=>hY k r W h hr) W hI
theorem names4{M X0 X:Nat->Prop}{w W:World}{x1 x2 x3 x4:Nat×Array Value×TypeId}{G:(Nat->Prop)->World->Prop}(_:Hid (St M X0 w [x1,x2,x3,x4] G X W)): ∃b1 b2 b3 b4:Nat,b1=x1.1/\b2=x2.1/\b3=x3.1/\b4=x4.1:=⟨_,_,_,_,rfl,rfl,rfl,rfl⟩
theorem wat_any(vP:Value)(lP:List (Array Value))(fr:Int)(vW:Value)(lW:List (Array Value))(wl:List (List (Array Value)))(vC:Value)(lC:List (Array Value))(s q:Int)(X0:Nat->Prop)(w:World)(hX: ∀b,X0 b->b<w.heap.size)(hG:vw vP lP vW lW wl vC lC X0 w)(hT:ZJ lP wl lC)(hf0:1<=fr)(hf1:fr<=4096)(hq0:0<=q)(hq1:q<=2000000):
  Calls Tryz.prog 18 #[.agg (PLC vP fr vW vC),.int .i64 s,.int .u64 q] w fun e w'=>e= .returned (.tuple #[.int .i64 (atW (q% fr) (xy fr lP wl lC s)).1,.int .i64 (atW (q% fr) (xy fr lP wl lC s)).2])/\Below w.heap.size w w':=by
 have k:Hid (St (fun _=>False) X0 w [] (vw vP lP vW lW wl vC lC) X0 w):=St.begin hX hG (gV _ _ _ _ _ _ _);have HT:=Lib.hid hT;have hy0:0<=q% fr:=Int.emod_nonneg _ (by omega);have hy1:q% fr<fr:=Int.emod_lt_of_pos _ (by omega);clear hG hT;refine(callsIn_wide (n:=9)).1 ?_;refine callsIn_of_wp_marks Tryz.func18 rfl trivial ?_ rfl;simp only[Tryz.ntmps18,List.size_toArray,List.length_cons,List.length_nil,Nat.reduceAdd,Nat.reduceSub,Array.replicate_succ,Array.replicate_zero,List.push_toArray,List.append_toArray,List.nil_append,List.cons_append];refine wpIn_wide.2 ?_;go_wp2_with(first|((with_reducible refine zz ?_);refine lda k rfl rfl .a2 (by rfl) ?_)|((with_reducible refine zI ?_);refine bxa k (T:=26) rfl ?_;clear k;intro c26 X W k)|((with_reducible refine zf ?_);refine al1 k Tryz.zeroValue3 rfl ?_;clear k;intro b3 X W k));refine(cycle_any vP fr vW vC q _ hf0 hf1 hq0 hq1).mono ?_;rintro e W1 ⟨rfl,hb⟩;replace k:=zj (k.out.call hb);clear hb;obtain⟨y,hy⟩: ∃y,q% fr=y:=⟨_,rfl⟩;rw[hy] at hy0 hy1⊢;have HYY:=Lib.hid hy;clear hy;go_wp2_with(first|((with_reducible refine zz ?_);refine lda k rfl rfl .a3 (by rfl) ?_)|((with_reducible refine zx ?_);refine so1 k rfl rfl rfl (by rfl) .a0 (by rfl) rfl ?_;clear k;intro W k)|((with_reducible refine zf ?_);refine al1 k Tryz.zeroValue3 rfl ?_;clear k;intro b3 X W k));refine(pwins_any vP fr vW vC s _).mono ?_;rintro e W1 ⟨bt,bp,rfl,h1,h2,h3,hk1,hk2,hb⟩;replace k:=zj (((k.out.call hb).add (H:=RoB bt (PLC vP fr vW vC) 26) ⟨hk1,fun hx=>by have:=k.out.lt _ hx;omega⟩ (vE _ _ _)).add (H:=RoB bp #[.int .i64 s] 3) ⟨hk2,fun hx=>by have:=k.out.lt _ hx;omega⟩ (vE _ _ _));clear hk1 hk2 hb;obtain⟨b8,b7,b6,b26,e1,e2,e3,e4⟩:=names4 k;dsimp only at e1 e2 e3 e4;subst e1 e2 e3 e4;replace k:Hid (St _ _ _ [(b8,#[.int .i64 y],_),(b7,#[.int .i64 0],_),(b6,#[.int .i64 0],_),(b26,_,_)] (WiG vP lP fr vW lW wl vC lC s bt bp) _ _):=k;have hbt:=k.out.fact.1.2.1;have hbp:=k.out.fact.2.1;have HW:=Lib.hid (gb (fr:=fr) (s:=s) HT.out);go_wp2_with fail;refine gw 56 #[.pointer (some ⟨bt,0,none⟩),.pointer (some ⟨bp,0,none⟩)] (xy fr lP wl lC s).length Value.agg (fun k r=>(xy fr lP wl lC s)[k]? =some r) rfl hcall56
  (fun kk W'=>Hid (atW y (xy fr lP wl lC s)=atW y ((xy fr lP wl lC s).drop kk))/\Betw (fun _=>False) X0 w W1.heap.size [(b8,#[.int .i64 y],3),(b7,#[.int .i64 0],3),(b6,#[.int .i64 0],3),(b26,PLC vP fr vW vC,26)] (WiG vP lP fr vW lW wl vC lC s bt bp) W')
  (fun c' W'=>c'=Code.ret/\Betw (fun _=>False) X0 w W1.heap.size [(b8,#[.int .i64 y],3),(b7,#[.int .i64 (atW y (xy fr lP wl lC s)).2],3),(b6,#[.int .i64 (atW y (xy fr lP wl lC s)).1],3),(b26,PLC vP fr vW vC,26)] (WiG vP lP fr vW lW wl vC lC s bt bp) W') ?hput ?hputS ?h0 ?hiter ?hround ?hdone ?hstop
 case h0=>exact fun o=>⟨zj rfl,k.out.betw _ _⟩
 case hput=>exact fun _ _ o h=>⟨h.1,h.2.put o⟩
 case hputS=>exact fun c' W o h=>⟨h.1,h.2.put o⟩
 case hiter=>
  refine wins_iter (vP:=vP) (vW:=vW) (lW:=lW) (vC:=vC) HT.out (by omega) (by omega) ?_ ?_
  ·intro kk W2 hI2
   obtain⟨X,_,k2⟩:=hI2.2.open;exact⟨k2.fact.1.2.1,k2.fact.2.1,(gV _ _ _ _ _ _ _).sub (fun _ h=>h.elim) k2.fact.1.1⟩
  ·exact fun kk W2 W3 hI2 hb=>⟨hI2.1,hI2.2.call hb⟩
 case hround=>
  intro fn kk r W hI hR hc;obtain⟨hE,hI⟩:=hI;obtain⟨ht,w1,w2,w3,w4,w5,w6,w7⟩:=HW.out r (List.mem_of_getElem? hc);have hst:=atW_step (q:=y) hc;obtain⟨p,f,l2,rfl,hl20,hl21⟩:=win_lit ht;change 0<=p at w1;change p<_ at w2;change 0<=f at w3;change 2<l2 at w4;change l2<=fr at w5;change f<=fr-l2 at w6;have hE1:Hid (atW y (xy fr lP wl lC s)=if f<=y/\y-f<l2 then(p,if y-f<2 then 1 else 2) else atW y ((xy fr lP wl lC s).drop (kk+1))):=by
   rw[hE.out,hst];exact zj rfl
  clear hE hst ht;have hwy:IntKind.i64.wrap (y-f)=y-f:=xg (by omega) (by omega);obtain⟨X,hX,k1⟩:=hI.open;have hsz:W1.heap.size+1<W.heap.size:=(Array.getElem?_eq_some_iff.1 hR.2).1;have hI':=Lib.hid hI;have hR':=Lib.hid hR;have K1:=Lib.hid k1;clear k hI hR;have k:=zj k1.again
  gi_wp2_with (first|(refine qQ rfl (fun _ h=>by cases h) ?_;(first|((with_reducible refine zx ?_);refine soa k rfl rfl rfl .a0 (by rfl) (by rfl) (zm rfl) ?_;clear k;intro W k)|((with_reducible refine zf ?_);refine ala k Tryz.zeroValue61 ?_;clear k;intro b61 X W k));refine yp ?_)|(refine qZ rfl rfl rfl (by with_reducible rfl) ?_;refine qQ rfl (fun _ h=>by cases h) ?_;fail;refine yp ?_))
  refine⟨hR'.out.keep k.out (fun x hx=>(hI'.out.1 x hx).1) (fun x hx=>(hI'.out.1 x hx).2),?_⟩;intro W2 hW2;have hRb:=(hR'.out.keep k.out (fun x hx=>(hI'.out.1 x hx).1) (fun x hx=>(hI'.out.1 x hx).2)).put (st':= .busy) (p':=none);rw[<-hW2] at hRb;have hB0:=hI'.out.back hsz hX k.out K1.out;have hB:=betw_eq hW2 hB0;clear hB0 hW2;have hRb':=Lib.hid hRb;have hB':=Lib.hid hB;clear hI' hR' k hRb;obtain⟨X2,hX2,k3⟩:=hB.open;have K3:=Lib.hid k3;have k:=zj k3.again;clear hB;have hsz2:W1.heap.size+1<W2.heap.size:=(Array.getElem?_eq_some_iff.1 hRb'.out.2).1;by_cases g1:y-f<0
  ·have d1:decide (y-f<0)=true:=decide_eq_true g1
   have hE2:Hid (atW y (xy fr lP wl lC s)=atW y ((xy fr lP wl lC s).drop (kk+1))):=by
    rw[hE1.out,if_neg (by omega)];exact zj rfl
   gi_wp2_with (first|(refine qQ rfl (fun _ h=>by cases h) ?_;((with_reducible refine zz ?_);refine ld1 k rfl rfl (by repeat constructor) (by rfl) ?_);refine yp ?_)|(refine qZ rfl rfl rfl (by with_reducible rfl) ?_;refine qQ rfl (fun _ h=>by cases h) ?_;fail;refine yp ?_))
   refine⟨hRb'.out.keep k.out (fun x hx=>(hB'.out.1 x hx).1) (fun x hx=>(hB'.out.1 x hx).2),?_⟩;exact hB'.out.back hsz2 hX2 (k.out.drop (n:=1)) K3.out
  have d1:decide (y-f<0)=false:=decide_eq_false g1;by_cases g2:l2<=y-f
  ·have d2:decide (l2<=y-f)=true:=decide_eq_true g2
   have hE2:Hid (atW y (xy fr lP wl lC s)=atW y ((xy fr lP wl lC s).drop (kk+1))):=by
    rw[hE1.out,if_neg (by omega)];exact zj rfl
   gi_wp2_with (first|(refine qQ rfl (fun _ h=>by cases h) ?_;((with_reducible refine zz ?_);refine ld1 k rfl rfl (by repeat constructor) (by rfl) ?_);refine yp ?_)|(refine qZ rfl rfl rfl (by with_reducible rfl) ?_;refine qQ rfl (fun _ h=>by cases h) ?_;((with_reducible refine zz ?_);refine ld1 k rfl rfl .a0 (by rfl) ?_);refine yp ?_))
   refine⟨hRb'.out.keep k.out (fun x hx=>(hB'.out.1 x hx).1) (fun x hx=>(hB'.out.1 x hx).2),?_⟩;exact hB'.out.back hsz2 hX2 (k.out.drop (n:=1)) K3.out
  have d2:decide (l2<=y-f)=false:=decide_eq_false g2;by_cases g3:y-f<2
  ·have d3:decide (y-f<2)=true:=decide_eq_true g3
   have hE2:Hid (atW y (xy fr lP wl lC s)=(p,1)):=by
    rw[hE1.out,if_pos (by omega),if_pos g3];exact zj rfl
   gi_wp2_with (first|(refine qQ rfl (fun _ h=>by cases h) ?_;(first|((with_reducible refine zz ?_);refine ld1 k rfl rfl (by repeat constructor) (by rfl) ?_)|((with_reducible refine zx ?_);refine so1 k rfl rfl rfl (by rfl) (by repeat constructor) (by rfl) rfl ?_;clear k;intro W k));refine yp ?_)|(refine qZ rfl rfl rfl (by with_reducible rfl) ?_;refine qQ rfl (fun _ h=>by cases h) ?_;((with_reducible refine zz ?_);refine ld1 k rfl rfl .a0 (by rfl) ?_);refine yp ?_))
   refine⟨hRb'.out.keep k.out (fun x hx=>(hB'.out.1 x hx).1) (fun x hx=>(hB'.out.1 x hx).2),?_⟩;rw[hE2.out];exact hB'.out.back hsz2 hX2 (k.out.drop (n:=1)) K3.out
  ·have d3:decide (y-f<2)=false:=decide_eq_false g3
   have hE2:Hid (atW y (xy fr lP wl lC s)=(p,2)):=by
    rw[hE1.out,if_pos (by omega),if_neg g3];exact zj rfl
   gi_wp2_with (first|(refine qQ rfl (fun _ h=>by cases h) ?_;(first|((with_reducible refine zz ?_);refine ld1 k rfl rfl (by repeat constructor) (by rfl) ?_)|((with_reducible refine zx ?_);refine so1 k rfl rfl rfl (by rfl) (by repeat constructor) (by rfl) rfl ?_;clear k;intro W k));refine yp ?_)|(refine qZ rfl rfl rfl (by with_reducible rfl) ?_;refine qQ rfl (fun _ h=>by cases h) ?_;((with_reducible refine zz ?_);refine ld1 k rfl rfl .a0 (by rfl) ?_);refine yp ?_))
   refine⟨hRb'.out.keep k.out (fun x hx=>(hB'.out.1 x hx).1) (fun x hx=>(hB'.out.1 x hx).2),?_⟩;rw[hE2.out];exact hB'.out.back hsz2 hX2 (k.out.drop (n:=1)) K3.out
 case hdone=>
  intro W hI hD;obtain⟨hE,hI⟩:=hI;have hz:Hid (atW y (xy fr lP wl lC s)=(-1,0)):=by
   rw[hE.out,List.drop_eq_nil_of_le (Nat.le_refl _)];exact zj rfl
  clear hE;obtain⟨X,hX,k1⟩:=hI.open;have hsz:W1.heap.size<W.heap.size:=(Array.getElem?_eq_some_iff.1 hD).1;have hsz2:W1.heap.size+1<W.heap.size:=by have:=k1.lt _ hX.2;omega
  have hI':=Lib.hid hI;have hD':=Lib.hid hD;have K1:=Lib.hid k1;have k:=zj k1.again;clear hI hD;go_wp2_with((with_reducible refine zx ?_);refine so1 k rfl rfl rfl (by rfl) (by repeat constructor) (by rfl) rfl ?_;clear k;intro W k);have hB:=hI'.out.back hsz2 hX k.out K1.out;have hD2:=(k.out.only.block _ hsz (fun⟨x,hx,e⟩=>(hI'.out.1 x hx).1 e)).trans hD'.out;obtain⟨X2,k2⟩:=hB.fin;exact vm hD2 (results_cc rfl _ rfl rfl (qd k2 2 (off:=0) rfl 3 rfl rfl) (qd k2 1 (off:=0) rfl 3 rfl rfl)) ⟨by rw[HYY.out,hz.out],k2.end⟩
 case hstop=>
  rintro c' W ⟨rfl,h4⟩ hD;obtain⟨X,k1⟩:=h4.fin;go_wp2_with fail;exact vm hD (results_cc rfl _ rfl rfl (qd k1 2 (off:=0) rfl 3 rfl rfl) (qd k1 1 (off:=0) rfl 3 rfl rfl)) ⟨by rw[HYY.out],k1.end⟩
end
open Go.RowKit
def noDefer(ops:Array Oper):Bool:=ops.toList.all fun o=>match o.op with| .defer _=>false|_=>true
theorem noDefer_at{ops:Array Oper}(h:noDefer ops=true){i:Nat}{o:Oper}(hi:ops[i]? =some o)(c:Call):o.op≠ .defer c:=by
 intro e;have hm:o∈ops.toList:=by
  rw[Array.mem_toList_iff];exact Array.mem_of_getElem? hi
 have:=List.all_eq_true.1 h o hm;rw[e] at this;cases this
theorem wpAnyIn_of{ro:Option Nat}{n:Nat}{P:Program}{md:Region.Mode}{ops:Array Oper}{Q:Exit->Act->World->Prop}(hnd:noDefer ops=true): ∀(fuel:Nat) (listed:Array Bool) (a:Act) (w:World),wpAny P md ops (NoPanic (Next1 (Q .normal))) fuel listed a w->wpAnyIn {Fence.wide with round:=ro} n P md ops Q fuel listed a w:=by
 intro fuel;induction fuel with
 |zero=>exact fun listed a w h=>h
 |succ fuel ih=>
  intro listed a w h;refine⟨h.1,fun i hi=> ?_⟩;have hw:=h.2 i hi;unfold wpOpIn;unfold wpOp at hw;split
  ·rename_i hn
   simp only[hn] at hw;exact ih _ _ _ hw
  ·rename_i o ho
   simp only[ho] at hw;split
   ·rename_i hwant
    rw[if_pos hwant] at hw;refine⟨fun f _=>trivial,?_⟩;rw[Oper.semAt_eq _ _ _ (noDefer_at hnd ho)];rcases hw with hw|⟨_,_,_,hx⟩
    ·unfold Oper.wp at hw
     generalize hres:(execOp a.eval o).run P w=res at hw⊢;cases res with
     |ok nx w'=>
      cases nx with
      |value v=>exact ih _ _ _ hw
      |skip=>exact ih _ _ _ hw
      |defer d=>exact ih _ _ _ hw
      |enter f args=>
       refine⟨fun hx=>by simp[Fence.wide] at hx,?_⟩;have h2:Calls P f args w' _:=hw;refine(show CallsIn {Fence.wide with round:=ro} (n-1) P f args w' _ from(callsIn_wide (n:=n-1)).2 h2).mono ?_;intro e w3 he;cases e with
       |returned v=>exact ih _ _ _ he
       |panicked c=>exact he.elim
       |outgrown=>obtain⟨_,_,hx⟩:=he;exact hx.elim
      |row r args=>
       refine⟨fun hx=>by simp[Fence.wide] at hx,fun c cs _=> ?_⟩;have h2:Rows P r args w' _:=hw;obtain⟨v,w3,h3,h4⟩:=h2 c cs;exact⟨v,w3,ih _ _ _ h3,stepsIn_wide.2 h4⟩
      |_=>exact hw.elim
     |halt x w'=>
      cases x with
      |panic v=>exact hw.elim
      |_=>exact hw.elim
    ·exact hx.elim
   ·rename_i hwant
    rw[if_neg hwant] at hw;exact⟨fun f _=>trivial,ih _ _ _ hw⟩
theorem wp_region_r{P:Program}{Q:Exit->Act->World->Prop}{M X0 X:Nat->Prop}{w0 w:World}{bs:List (Nat×Array Value×TypeId)}{G:(Nat->Prop)->World->Prop}{id lp m:Nat}{l:List Oper}{a:Act}(k:Hid (St M X0 w0 bs G X w))(s n:Nat)(hm:P.follows .mixedOrders=true)(hn:l.length=n)(hnd:noDefer l.toArray=true)
  (h: ∀W,Hid (St M X0 w0 bs G X W)->qg P .any l.toArray (NoPanic (Next1 (Q .normal))) (Stay M X0 w0 bs G) s n (Array.replicate n false) a W):(Code.region id l.toArray true).wpIn (Fence.wide.inRound lp) m P Q a w:=by
 refine wpIn_region_any hm (wpAnyIn_of (ro:=some lp) hnd _ _ _ _ (gX (S:=Stay M X0 w0 bs G) (s:=s) _ _ _ _ ?_));subst hn;have:=h _ k.out.drew;simpa using this
section
open Go.RowKit
attribute [local go_sem] Oper.semAt_some
theorem next1_in{K:Act->World->Prop}{a:Act}{w:World}(h:K a w):Next1 K .normal a w:=h
def jQ(q:Int)(l:List (Array Value)):Bool:=l.any fun r=>zQ r 1==q
theorem startsW_step{q:Int}{l:List (Array Value)}{j:Nat}{r:Array Value}(h:l[j]? =some r):jQ q (l.drop j)=(zQ r 1==q||jQ q (l.drop (j+1))):=by
 have hj:j<l.length:=(List.getElem?_eq_some_iff.1 h).1;have e:l.drop j=r::l.drop (j+1):=by
  rw[List.drop_eq_getElem_cons hj];congr 1;exact(List.getElem?_eq_some_iff.1 h).2
 rw[e];rfl
theorem names3{M X0 X:Nat->Prop}{w W:World}{x1 x2 x3:Nat×Array Value×TypeId}{G:(Nat->Prop)->World->Prop}(_:Hid (St M X0 w [x1,x2,x3] G X W)): ∃b1 b2 b3:Nat,b1=x1.1/\b2=x2.1/\b3=x3.1:=⟨_,_,_,rfl,rfl,rfl⟩
theorem wstarts_any(vP:Value)(lP:List (Array Value))(fr:Int)(vW:Value)(lW:List (Array Value))(wl:List (List (Array Value)))(vC:Value)(lC:List (Array Value))(s q:Int)(X0:Nat->Prop)(w:World)(hX: ∀b,X0 b->b<w.heap.size)(hG:vw vP lP vW lW wl vC lC X0 w)(hT:ZJ lP wl lC)(hf0:1<=fr)(hf1:fr<=4096)(hq0:0<=q)(hq1:q<=2000000):
  Calls Tryz.prog 19 #[.agg (PLC vP fr vW vC),.int .i64 s,.int .u64 q] w fun e w'=>e= .returned (.bool (jQ (q% fr) (xy fr lP wl lC s)))/\Below w.heap.size w w':=by
 have k:Hid (St (fun _=>False) X0 w [] (vw vP lP vW lW wl vC lC) X0 w):=St.begin hX hG (gV _ _ _ _ _ _ _);have HT:=Lib.hid hT;clear hG hT;refine(callsIn_wide (n:=9)).1 ?_;refine callsIn_of_wp_marks Tryz.func19 rfl trivial ?_ rfl;simp only[Tryz.ntmps19,List.size_toArray,List.length_cons,List.length_nil,Nat.reduceAdd,Nat.reduceSub,Array.replicate_succ,Array.replicate_zero,List.push_toArray,List.append_toArray,List.nil_append,List.cons_append];refine wpIn_wide.2 ?_;go_wp2_with(first|((with_reducible refine zz ?_);refine lda k rfl rfl .a2 (by rfl) ?_)|((with_reducible refine zI ?_);first|(refine bxa k (T:=26) rfl ?_;clear k;intro c26 X W k)|(refine bx1 k (T:=32) rfl rfl ?_;clear k;intro c32 X W k))|((with_reducible refine zf ?_);refine al1 k Tryz.zeroValue4 rfl ?_;clear k;intro b4 X W k));refine(pwins_any vP fr vW vC s _).mono ?_;rintro e W1 ⟨bt,bp,rfl,h1,h2,h3,hk1,hk2,hb⟩;replace k:=zj (((k.out.call hb).add (H:=RoB bt (PLC vP fr vW vC) 26) ⟨hk1,fun hx=>by have:=k.out.lt _ hx;omega⟩ (vE _ _ _)).add (H:=RoB bp #[.int .i64 s] 3) ⟨hk2,fun hx=>by have:=k.out.lt _ hx;omega⟩ (vE _ _ _));clear hk1 hk2 hb;obtain⟨b6,b5,b26,e1,e2,e3⟩:=names3 k;dsimp only at e1 e2 e3;subst e1 e2 e3;replace k:Hid (St _ _ _ [(b6,#[.bool false],_),(b5,#[.int .u64 q],_),(b26,_,_)] (WiG vP lP fr vW lW wl vC lC s bt bp) _ _):=k;have hbt:=k.out.fact.1.2.1;have hbp:=k.out.fact.2.1;have HW:=Lib.hid (gb (fr:=fr) (s:=s) HT.out);go_wp2_with fail;refine gw 56 #[.pointer (some ⟨bt,0,none⟩),.pointer (some ⟨bp,0,none⟩)] (xy fr lP wl lC s).length Value.agg (fun k r=>(xy fr lP wl lC s)[k]? =some r) rfl hcall56
  (fun kk W'=>Hid (jQ (q% fr) (xy fr lP wl lC s)=jQ (q% fr) ((xy fr lP wl lC s).drop kk))/\Betw (fun _=>False) X0 w W1.heap.size [(b6,#[.bool false],4),(b5,#[.int .u64 q],32),(b26,PLC vP fr vW vC,26)] (WiG vP lP fr vW lW wl vC lC s bt bp) W')
  (fun c' W'=>c'=Code.ret/\jQ (q% fr) (xy fr lP wl lC s)=true/\Betw (fun _=>False) X0 w W1.heap.size [(b6,#[.bool true],4),(b5,#[.int .u64 q],32),(b26,PLC vP fr vW vC,26)] (WiG vP lP fr vW lW wl vC lC s bt bp) W') ?hput ?hputS ?h0 ?hiter ?hround ?hdone ?hstop
 case h0=>exact fun o=>⟨zj rfl,k.out.betw _ _⟩
 case hput=>exact fun _ _ o h=>⟨h.1,h.2.put o⟩
 case hputS=>exact fun c' W o h=>⟨h.1,h.2.1,h.2.2.put o⟩
 case hiter=>
  refine wins_iter (vP:=vP) (vW:=vW) (lW:=lW) (vC:=vC) HT.out (by omega) (by omega) ?_ ?_
  ·intro kk W2 hI2
   obtain⟨X,_,k2⟩:=hI2.2.open;exact⟨k2.fact.1.2.1,k2.fact.2.1,(gV _ _ _ _ _ _ _).sub (fun _ h=>h.elim) k2.fact.1.1⟩
  ·exact fun kk W2 W3 hI2 hb=>⟨hI2.1,hI2.2.call hb⟩
 case hround=>
  intro fn kk r W hI hR hc;obtain⟨hE,hI⟩:=hI;obtain⟨ht,w1,w2,w3,w4,w5,w6,w7⟩:=HW.out r (List.mem_of_getElem? hc);have hst:=startsW_step (q:=q% fr) hc;obtain⟨p,f,l2,rfl,hl20,hl21⟩:=win_lit ht;have hE1:Hid (jQ (q% fr) (xy fr lP wl lC s)=(f==q% fr||jQ (q% fr) ((xy fr lP wl lC s).drop (kk+1)))):=by
   rw[hE.out,hst];exact zj rfl
  clear hE hst ht w1 w2 w3 w4 w5 w6 w7;obtain⟨X,hX,k1⟩:=hI.open;have hsz:W1.heap.size+1<W.heap.size:=(Array.getElem?_eq_some_iff.1 hR.2).1;have hI':=Lib.hid hI;have hR':=Lib.hid hR;have K1:=Lib.hid k1;clear k hI hR;have k:=zj k1.again
  gi_wp2_with (first|(refine qQ rfl (fun _ h=>by cases h) ?_;(first|((with_reducible refine zx ?_);refine soa k rfl rfl rfl .a0 (by rfl) (by rfl) (zm rfl) ?_;clear k;intro W k)|((with_reducible refine zf ?_);refine ala k Tryz.zeroValue61 ?_;clear k;intro b61 X W k));refine yp ?_)|(refine qZ rfl rfl rfl (by with_reducible rfl) ?_;refine qQ rfl (fun _ h=>by cases h) ?_;fail;refine yp ?_))
  refine⟨hR'.out.keep k.out (fun x hx=>(hI'.out.1 x hx).1) (fun x hx=>(hI'.out.1 x hx).2),?_⟩;intro W2 hW2;have hRb:=(hR'.out.keep k.out (fun x hx=>(hI'.out.1 x hx).1) (fun x hx=>(hI'.out.1 x hx).2)).put (st':= .busy) (p':=none);rw[<-hW2] at hRb;have hB0:=hI'.out.back hsz hX k.out K1.out;have hB:=betw_eq hW2 hB0;clear hB0 hW2;have hRb':=Lib.hid hRb;have hB':=Lib.hid hB;clear hI' hR' k hRb;obtain⟨X2,hX2,k3⟩:=hB.open;have K3:=Lib.hid k3;have k:=zj k3.again;clear hB;have hsz2:W1.heap.size+1<W2.heap.size:=(Array.getElem?_eq_some_iff.1 hRb'.out.2).1
  gi_wp2_with (first|(refine qQ rfl (fun _ h=>by cases h) ?_;fail;refine yp ?_)|(refine qZ rfl rfl rfl (by with_reducible rfl) ?_;refine qQ rfl (fun _ h=>by cases h) ?_;fail;refine yp ?_))
  have HPer:=Lib.hid k.out.per;refine wp_region_r k 6 6 (by kernel_rfl) rfl (by kernel_rfl) ?_;clear k;intro W k;refine zq [(0,some 12,[]),(1,some 13,[]),(2,some 14,[]),(3,some 15,[])] [?v1_0,?v1_1,?v1_2,?v1_3] 2 (by kernel_rfl) ⟨_,k.out⟩ ?l1 ?h1;case l1=>
   intro w' hSw;iterate 4
    refine lkw rfl rfl (by rfl) ?_ ?_
    ·first|((with_reducible refine yw ?_);first|exact hSw.l1 rfl rfl (by repeat constructor) (by rfl)|exact hSw.la rfl rfl .a3 (by rfl) (by rfl)|exact hSw.lp rfl rfl (by repeat constructor) (D:= #[_,_,_,_]) (by rfl) (by rfl) (by rfl))|(go_simp<;>with_reducible rfl)
    try simp only[Act.put,tS,t0,t1]
   trivial
  simp only[zw,zk,Act.put,tS,t0,t1];refine w1 4 1 (by kernel_rfl) rfl ?_;go_wp2_with fail;refine(cycle_any vP fr vW vC q _ hf0 hf1 hq0 hq1).mono ?_;rintro e W3 ⟨rfl,hb⟩;replace k:=zj (k.out.call hb);clear hb;go_wp2_with fail;refine zd (yz ⟨_,k.out⟩) ?_;refine zq [(5,some 17,[])] [?v2_5] 0 (by kernel_rfl) ⟨_,k.out⟩ ?l2 ?h2;case l2=>
   intro w' hSw;refine lkw rfl rfl (by rfl) ?_ ?_
   ·go_simp<;>with_reducible rfl
   try simp only[Act.put,tS,t0,t1]
   trivial
  simp only[zw,zk,Act.put,tS,t0,t1];refine zv (by kernel_rfl) ?_ _;clear HPer;refine next1_in ?_;by_cases g1:f=q% fr
  ·have d1:(f==q% fr)=true:=by rw[beq_iff_eq];exact g1
   gi_wp2_with (first|(refine qQ rfl (fun _ h=>by cases h) ?_;((with_reducible refine zx ?_);refine so1 k rfl rfl rfl (by rfl) .a1 (by rfl) rfl ?_;clear k;intro W k);refine yp ?_)|(refine qZ rfl rfl rfl (by with_reducible rfl) ?_;refine qQ rfl (fun _ h=>by cases h) ?_;fail;refine yp ?_))
   refine⟨hRb'.out.keep k.out (fun x hx=>(hB'.out.1 x hx).1) (fun x hx=>(hB'.out.1 x hx).2),by rw[hE1.out,d1];rfl,?_⟩;exact hB'.out.back hsz2 hX2 (k.out.drop (n:=1)) K3.out
  ·have d1:(f==q% fr)=false:=by rw[beq_eq_false_iff_ne];exact g1
   have hE2:Hid (jQ (q% fr) (xy fr lP wl lC s)=jQ (q% fr) ((xy fr lP wl lC s).drop (kk+1))):=by
    rw[hE1.out,d1];exact zj rfl
   gi_wp2_with (first|(refine qQ rfl (fun _ h=>by cases h) ?_;fail;refine yp ?_)|(refine qZ rfl rfl rfl (by with_reducible rfl) ?_;refine qQ rfl (fun _ h=>by cases h) ?_;fail;refine yp ?_))
   refine⟨hRb'.out.keep k.out (fun x hx=>(hB'.out.1 x hx).1) (fun x hx=>(hB'.out.1 x hx).2),?_⟩;exact hB'.out.back hsz2 hX2 (k.out.drop (n:=1)) K3.out
 case hdone=>
  intro W hI hD;obtain⟨hE,hI⟩:=hI;have hz:Hid (jQ (q% fr) (xy fr lP wl lC s)=false):=by
   rw[hE.out,List.drop_eq_nil_of_le (Nat.le_refl _)];exact zj rfl
  clear hE;obtain⟨X,hX,k1⟩:=hI.open;have hsz:W1.heap.size<W.heap.size:=(Array.getElem?_eq_some_iff.1 hD).1;have hsz2:W1.heap.size+1<W.heap.size:=by have:=k1.lt _ hX.2;omega
  have hI':=Lib.hid hI;have hD':=Lib.hid hD;have K1:=Lib.hid k1;have k:=zj k1.again;clear hI hD;go_wp2_with((with_reducible refine zx ?_);refine so1 k rfl rfl rfl (by rfl) .a0 (by rfl) rfl ?_;clear k;intro W k);have hB:=hI'.out.back hsz2 hX k.out K1.out;have hD2:=(k.out.only.block _ hsz (fun⟨x,hx,e⟩=>(hI'.out.1 x hx).1 e)).trans hD'.out;obtain⟨X2,k2⟩:=hB.fin;exact vm hD2 (yj rfl _ rfl (qd k2 0 (off:=0) rfl 4 rfl rfl)) ⟨by rw[hz.out],k2.end⟩
 case hstop=>
  rintro c' W ⟨rfl,hs,h4⟩ hD;obtain⟨X,k1⟩:=h4.fin;have HS:=Lib.hid hs;clear hs;go_wp2_with fail;exact vm hD (yj rfl _ rfl (qd k1 0 (off:=0) rfl 4 rfl rfl)) ⟨by rw[HS.out],k1.end⟩
end
def ownI(i:Int)(l:List (Array Value))(q:Int):Nat:=if atW q l=(i,2) then 1 else 0
def cntW(i:Int)(l:List (Array Value)):Nat->Nat
 |0=>0
 |n+1=>cntW i l n+ownI i l n
def cntT(i fr:Int)(l:List (Array Value)):Nat->Nat
 |0=>0
 |n+1=>cntT i fr l n+ownI i l ((n:Int)% fr)
def jU(i:Int):List (Array Value)->Int
 |[]=>0
 |r::l=>(if zQ r 0=i then zQ r 2-2 else 0)+jU i l
theorem atW_gap{np:Nat}{fr:Int}{l:List (Array Value)}: ∀{b q:Int},wsE np fr b l=0->q<b->atW q l=(-1,0):=by
 induction l with
 |nil=>intro b q _ _;rfl
 |cons r l ih=>
  intro b q h hq;rw[wsE] at h;split at h
  ·contradiction
  ·rename_i h1
   have h2:=winE_ok (by simpa using h1);rw[atW,if_neg (by omega)];exact ih h (by omega)
theorem ownI_cons{np:Nat}{fr b:Int}{r:Array Value}{l:List (Array Value)}(i q:Int)(hi:0<=i)(h:wsE np fr b (r::l)=0):
  ownI i (r::l) q=(if zQ r 0=i/\zQ r 1+2<=q/\q<zQ r 1+zQ r 2 then 1 else 0)+ownI i l q:=by
 rw[wsE] at h;split at h
 ·contradiction
 ·rename_i h1
  have h2:=winE_ok (by simpa using h1);unfold ownI;rw[atW];by_cases hin:zQ r 1<=q/\q-zQ r 1<zQ r 2
  ·have hg:=atW_gap (q:=q) h (by omega)
   rw[if_pos hin,hg];have e0:((-1:Int),(0:Int))≠(i,2):=by
    intro e;injection e with e1 e2;cases e2
   rw[if_neg e0];by_cases h3:q-zQ r 1<2
   ·rw[if_pos h3]
    have e1:(zQ r 0,(1:Int))≠(i,2):=by
     intro e;injection e with e1 e2;cases e2
    rw[if_neg e1,if_neg (by omega)]
   ·rw[if_neg h3]
    by_cases hp:zQ r 0=i
    ·rw[if_pos (by rw[hp]),if_pos ⟨hp,by omega,by omega⟩]
    ·rw[if_neg (by intro e;injection e with e1 e2;exact hp e1),if_neg (by intro e;exact hp e.1)]
  ·have hno: ¬(zQ r 0=i/\zQ r 1+2<=q/\q<zQ r 1+zQ r 2):=fun e=>hin ⟨by omega,by omega⟩
   rw[if_neg hin,if_neg hno,Nat.zero_add]
def cntB(a b:Int):Nat->Nat
 |0=>0
 |n+1=>cntB a b n+(if a<=n/\(n:Int)<b then 1 else 0)
theorem cntB_eq{a b:Int}(h0:0<=a)(h1:a<=b)(n:Nat):(cntB a b n:Int)=min (n:Int) b-min (n:Int) a:=by
 induction n with
 |zero=>simp only[cntB];omega
 |succ n ih=>
  simp only[cntB];split<;>omega
theorem cntW_cons{np:Nat}{fr b:Int}{r:Array Value}{l:List (Array Value)}(i:Int)(hi:0<=i)(h:wsE np fr b (r::l)=0)(n:Nat):
  cntW i (r::l) n=(if zQ r 0=i then cntB (zQ r 1+2) (zQ r 1+zQ r 2) n else 0)+cntW i l n:=by
 induction n with
 |zero=>simp[cntW,cntB]
 |succ n ih=>
  simp only[cntW,cntB];rw[ih,ownI_cons i n hi h];by_cases hp:zQ r 0=i
  ·simp only[hp,true_and,if_true]
   omega
  ·simp only[hp,false_and,if_false]
   omega
theorem count_frame{np:Nat}{fr:Int}{l:List (Array Value)}(i:Int)(hi:0<=i): ∀{b:Int},wsE np fr b l=0->(cntW i l fr.toNat:Int)=jU i l:=by
 induction l with
 |nil=>
  intro b _;have: ∀n,cntW i [] n=0:=by
   intro n;induction n with
   |zero=>rfl
   |succ n ih=>
    rw[cntW,ih];have e1:((-1:Int),(0:Int))≠(i,2):=by
     intro e;injection e with e1 e2;cases e2
    unfold ownI;rw[atW,if_neg e1]
  rw[this];rfl
 |cons r l ih=>
  intro b h;rw[cntW_cons i hi h,jU];have h':=h;rw[wsE] at h';split at h'
  ·contradiction
  ·rename_i h1
   have h2:=winE_ok (by simpa using h1);have:=ih h';split
   ·have e:=cntB_eq (a:=zQ r 1+2) (b:=zQ r 1+zQ r 2) (by omega) (by omega) fr.toNat
    push_cast
    omega
   ·push_cast
    omega
theorem cntT_frame{i fr:Int}{l:List (Array Value)}(hf:1<=fr)(m c:Nat)(hc:(c:Int)<=fr):cntT i fr l (m*fr.toNat+c)=cntT i fr l (m*fr.toNat)+cntW i l c:=by
 induction c with
 |zero=>rfl
 |succ c ih=>
  rw[<-Nat.add_assoc];simp only[cntT,cntW];rw[ih (by omega)];have e:((m*fr.toNat+c:Nat):Int)% fr=c:=by
   push_cast
   rw[Int.toNat_of_nonneg (by omega),Int.add_comm,Int.add_mul_emod_self_right];exact Int.emod_eq_of_lt (by omega) (by omega)
  rw[e];omega
theorem cntT_frames{i fr:Int}{l:List (Array Value)}(hf:1<=fr)(m:Nat):cntT i fr l (m*fr.toNat)=m*cntW i l fr.toNat:=by
 induction m with
 |zero=>simp[cntT]
 |succ m ih=>
  have:=cntT_frame (i:=i) (l:=l) hf m fr.toNat (by omega);rw[Nat.succ_mul,this,ih,Nat.succ_mul]
theorem count_frames{np:Nat}{fr:Int}{l:List (Array Value)}(i:Int)(hi:0<=i)(hf:1<=fr)(h:wsE np fr 0 l=0)(m:Nat):(cntT i fr l (m*fr.toNat):Int)=m*jU i l:=by
 rw[cntT_frames hf]
 push_cast
 rw[count_frame i hi h]
theorem grantL_take{i:Int}{l:List (Array Value)}{j:Nat}{r:Array Value}(h:l[j]? =some r):jU i (l.take (j+1))=jU i (l.take j)+(if zQ r 0=i then zQ r 2-2 else 0):=by
 induction l generalizing j with
 |nil=>cases h
 |cons x l ih=>
  cases j with
  |zero=>
   injection h with h;subst h;simp[jU]
  |succ j=>
   have:=ih (j:=j) (by simpa using h);simp only[List.take_succ_cons,jU,this];omega
theorem starts_at{q:Int}{l:List (Array Value)}(hl: ∀r∈l,2<zQ r 2)(h:jQ q l=true): ∃r∈l,(atW q l).1=zQ r 0:=by
 induction l with
 |nil=>cases h
 |cons r l ih=>
  rw[atW];by_cases hin:zQ r 1<=q/\q-zQ r 1<zQ r 2
  ·rw[if_pos hin];exact⟨r,List.mem_cons_self,rfl⟩
  ·rw[if_neg hin]
   have h1:=hl r List.mem_cons_self;have h2:jQ q l=true:=by
    unfold jQ at h⊢;rw[List.any_cons] at h;have:(zQ r 1==q)=false:=by
     rw[beq_eq_false_iff_ne];omega
    rw[this] at h;simpa using h
   obtain⟨r',hr',e⟩:=ih (fun r hr=>hl r (List.mem_cons_of_mem _ hr)) h2;exact⟨r',List.mem_cons_of_mem _ hr',e⟩
theorem at_own{q:Int}{l:List (Array Value)}(h:(atW q l).2=2): ∃r∈l,(atW q l).1=zQ r 0:=by
 induction l with
 |nil=>simp[atW] at h
 |cons r l ih=>
  rw[atW] at h⊢;by_cases hin:zQ r 1<=q/\q-zQ r 1<zQ r 2
  ·rw[if_pos hin];exact⟨r,List.mem_cons_self,rfl⟩
  ·rw[if_neg hin] at h⊢
   obtain⟨r',hr',e⟩:=ih h;exact⟨r',List.mem_cons_of_mem _ hr',e⟩
end Go.Proofs.YtaccidkgnkmagaaGreatDoor.Top
