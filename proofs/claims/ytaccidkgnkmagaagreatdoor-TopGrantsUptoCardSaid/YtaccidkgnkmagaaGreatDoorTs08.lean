/-
  Walks and laws of the whole machine: Iter, Range, Loop, Table2, Table3, Kern, KPlain, KW, Ord, Set. Conditions: each theorem names its own.
-/
import Derived.Test.YtaccidkgnkmagaaGreatDoorTs07
set_option maxRecDepth 16000
set_option maxHeartbeats 12800000
set_option linter.unusedVariables false
set_option linter.unusedSimpArgs false
namespace Go.Proofs.YtaccidkgnkmagaaGreatDoor.Top
section
open Go.RowKit
attribute [local go_sem] Oper.semAt_some
theorem cell_lt{W:World}{b j:Nat}{v:Value}(h:W.cell? ⟨b,j,none⟩=some v):b<W.heap.size:=by
 rcases Nat.lt_or_ge b W.heap.size with h1|h1
 ·exact h1
 ·simp[World.cell?,Array.getElem?_eq_none h1] at h
theorem children_in(n L Bt Bp:Nat)(A:Option Addr)(c:Nat)(l:List (Array Value))(x:Int)(J:Nat->World->Prop)(JS:World->Prop)(hl: ∀r∈l,Ty yu r)(hle:l.length<=1000000)
  (hJ1: ∀k W,J k W->W.cell? ⟨Bt,0,none⟩=some (.slice A l.length c)/\W.cell? ⟨Bp,0,none⟩=some (.int .i64 x)/\Sl 26 (.slice A l.length c) l (fun _=>False) W)
  (hJ2: ∀k W W',J k W->Below W.heap.size W W'->J k W')
  (hN: ∀k r W,J k W->l[k]? =some r->ym r≠x->J (k+1) W)
  (hY: ∀k r W,J k W->l[k]? =some r->ym r=x->YieldAt Fence.wide (n-1) Tryz.prog L #[.agg r] W fun e W'=> ∃b,e= .returned (.bool b)/\(b=true->J (k+1) W')/\(b=false->JS W'))
  (W:World) (h0:J 0 W):
  CallsIn Fence.wide n Tryz.prog 195 #[.func (.yield L) #[] #[],.pointer (some ⟨Bt,0,none⟩),.pointer (some ⟨Bp,0,none⟩)] W fun e W'=>(∃v,e= .returned v)/\(J l.length W' \/JS W'):=by
 have HL:=zj hl;have HJ1:=zj hJ1;have HJ2:=zj hJ2;have HN:=zj hN;have HY:=zj hY;obtain⟨a1,a2,_⟩:=hJ1 _ _ h0;clear hJ1 hJ2 hN hY hl;have H0:=zj h0;clear h0;refine callsIn_of_wp Tryz.func195 rfl trivial ?_ rfl;simp only[Tryz.ntmps195,List.size_toArray,List.length_cons,List.length_nil,Nat.reduceAdd,Nat.reduceSub,Array.replicate_succ,Array.replicate_zero,List.push_toArray,List.append_toArray,List.nil_append,List.cons_append]
 gi_wp2
 gi_loopw [8] (fun i wr=> ∃k:Nat,k<=l.length/\i= .int .i64 k/\Hid (J k wr)) (fun i _=>l.length-(intOf i).toNat)
 case atStart=>exact⟨0,Nat.zero_le _,rfl,H0⟩
 case round=>
  obtain⟨k,hk,rfl,hJ⟩:=hrel;obtain⟨c1,c2,hsl⟩:=HJ1.out _ _ hJ.out;clear a1 a2;by_cases hlt:k<l.length
  ·obtain⟨r,hr⟩: ∃r,l[k]? =some r:=⟨l[k],List.getElem?_eq_getElem hlt⟩
   have hrt:=HL.out r (List.mem_of_getElem? hr);have HRS:Hid (r.size=26):=hrt.size;have HT:=Lib.hid hrt;obtain⟨b,o,rfl,hbs,_,_,hcell⟩:=hsl.row hr (by decide);have HC:=Lib.hid hcell;have HR:=Lib.hid hr;have e1:Hid (r[1]? =some (.int .i64 (ym r))):=xq hrt 1 rfl;have hbp:Bp<wr.heap.size:=cell_lt c2;clear hr hrt hcell hsl c1;obtain⟨y,hy⟩: ∃y,ym r=y:=⟨_,rfl⟩;rw[hy] at e1;have HYE:=Lib.hid hy;clear hy;by_cases hyx:y=x
   ·subst hyx
    gi_wp2_with (first|(refine qZ rfl rfl rfl (by with_reducible rfl) ?_;refine jz rfl (fun _ h=>by cases h) ?_;refine zZ rfl (.tmp 5) 132 rfl wr.heap.size 0 26 rfl r (Tryz.isAgg132 _) (Tryz.sizeOf132 _) HRS.out (fun j u hj=>by rw[Nat.zero_add];exact(hk2.rules.1 j).trans hj) ?_;refine yp ?_)|(refine jz rfl (fun _ h=>by cases h) ?_;refine zZ rfl (.tmp 10) 132 rfl b _ 26 rfl r (Tryz.isAgg132 _) (Tryz.sizeOf132 _) HRS.out (fun j u hj=>by have:=HC.out j u hj;simpa using this) ?_;refine yp ?_)|(refine jz rfl (fun _ h=>by cases h) ?_;refine yJ rfl 132 rfl _ (Tryz.zeroValue132 _) ?_;intro W1 hk1 hb1 hz1;refine yp ?_)|(refine jz rfl (fun _ h=>by cases h) ?_;refine yX rfl (.tmp 5) (.tmp 11) 132 rfl wr.heap.size 0 rfl gO 132 hk1 _ rfl r rfl (by rw[HRS.out];exact Tryz.sizeOf132 _) (by rw[HRS.out];decide) HT.out.one ?_;intro W2 hk2 hb2 hz2 hg2;rw[xU gO r HRS.out] at hk2;have g1:=(hk2.rules.1 1).trans e1.out;have g2:=((hb2.cell (p:=⟨Bp,0,none⟩) hbp).trans (hb1.cell (p:=⟨Bp,0,none⟩) hbp)).trans c2;refine yp ?_))
    have hJ2':=HJ2.out _ _ W2 hJ.out (hb1.trans hb2);obtain⟨fn,tmps,assign,body,hyl,hR⟩:=HY.out k r W2 hJ2' HR.out HYE.out;have HRd:=zj hR;rw[hyl];clear hR hyl;refine⟨(fun h=>by cases h),?_⟩;refine HRd.out.mono ?_;rintro e W3 ⟨bb,rfl,hbt,hbf⟩;clear hk1 hb1 hk2 hb2 g1 g2 HRd c2;cases bb with
    |true=>
     have HBT:=zj (hbt rfl);clear hbt hbf
     gi_wp2_with fail
     exact⟨⟨k+1,by omega,by go_num,HBT⟩,by simp[intOf];omega⟩
    |false=>
     have HBF:=zj (hbf rfl);clear hbt hbf
     gi_wp2_with fail
     exact bodyPost_ret (results_none rfl _ _ _) rfl ⟨⟨_,rfl⟩,.inr HBF.out⟩
   ·have d1:(y==x)=false:=by rw[beq_eq_false_iff_ne];exact hyx
    gi_wp2_with (first|(refine skip_w rfl rfl rfl (by with_reducible rfl) rfl ?_)|(refine qZ rfl rfl rfl (by with_reducible rfl) ?_;refine jz rfl (fun _ h=>by cases h) ?_;refine zZ rfl (.tmp 5) 132 rfl wr.heap.size 0 26 rfl r (Tryz.isAgg132 _) (Tryz.sizeOf132 _) HRS.out (fun j u hj=>by rw[Nat.zero_add];exact(hk2.rules.1 j).trans hj) ?_;refine yp ?_)|(refine jz rfl (fun _ h=>by cases h) ?_;refine zZ rfl (.tmp 10) 132 rfl b _ 26 rfl r (Tryz.isAgg132 _) (Tryz.sizeOf132 _) HRS.out (fun j u hj=>by have:=HC.out j u hj;simpa using this) ?_;refine yp ?_)|(refine jz rfl (fun _ h=>by cases h) ?_;refine yJ rfl 132 rfl _ (Tryz.zeroValue132 _) ?_;intro W1 hk1 hb1 hz1;refine yp ?_)|(refine jz rfl (fun _ h=>by cases h) ?_;refine yX rfl (.tmp 5) (.tmp 11) 132 rfl wr.heap.size 0 rfl gO 132 hk1 _ rfl r rfl (by rw[HRS.out];exact Tryz.sizeOf132 _) (by rw[HRS.out];decide) HT.out.one ?_;intro W2 hk2 hb2 hz2 hg2;rw[xU gO r HRS.out] at hk2;have g1:=(hk2.rules.1 1).trans e1.out;have g2:=((hb2.cell (p:=⟨Bp,0,none⟩) hbp).trans (hb1.cell (p:=⟨Bp,0,none⟩) hbp)).trans c2;refine yp ?_))
    have hJ3:=HN.out _ _ _ (HJ2.out _ _ W2 hJ.out (hb1.trans hb2)) HR.out (by rw[HYE.out];exact hyx);exact⟨⟨k+1,by omega,by go_num,zj hJ3⟩,by simp[intOf];omega⟩
  ·obtain rfl:k=l.length:=by omega
   gi_wp2_with fail
   go_end0
   exact⟨⟨_,rfl⟩,.inl hJ.out⟩
end
open Go.RowKit
def recL(fn:FuncId)(a:Act)(ps:Array Tmp)(assign body:Code)(n:Nat)(st:LoopState)(p:Option Code):Loop:={state:=st,pending:=p,fn:=fn,tmps:=a.tmps,params:=ps,assign:=assign,body:=body,defers:=n}
def Rec(fn:FuncId)(a:Act)(ps:Array Tmp)(assign body:Code)(n:Nat)(st:LoopState)(p:Option Code)(W:World):Prop:=
 W.heap[n]? =some (.deferred (some []))/\W.heap[n+1]? =some (.loop (recL fn a ps assign body n st p))
theorem Rec.put{fn:FuncId}{a:Act}{ps:Array Tmp}{assign body:Code}{n:Nat}{st st':LoopState}{p p':Option Code}{W:World}(h:Rec fn a ps assign body n st p W):Rec fn a ps assign body n st' p' (W.putObj (n+1) (.loop (recL fn a ps assign body n st' p'))):=by
 obtain⟨h1,h2⟩:=h;have hlt:n+1<W.heap.size:=(Array.getElem?_eq_some_iff.1 h2).1;constructor
 ·simp only[World.putObj]
  rw[Array.getElem?_setIfInBounds_ne (by omega)];exact h1
 ·simp only[World.putObj]
  rw[Array.getElem?_setIfInBounds_self_of_lt hlt]
theorem gw{g:Operand}{p:Tmp}{assign body:Code}{Q:Exit->Act->World->Prop}{a:Act}{w:World}{α:Type}(F:FuncId)(caps:Array Value)(m:Nat)(enc:α->Value)(can:Nat->α->Prop)
  (hg:a.eval g= .func (.func F) #[] caps) (hcall: ∀(args:Array Value) (w:World),(callFunc F args).run Tryz.prog w= .ok (.enter F args) w)
  (I:Nat->World->Prop) (IS:Code->World->Prop)
  (hput: ∀k W o,I k W->I k (W.putObj (w.heap.size+1) (.loop o))) (hputS: ∀c W o,IS c W->IS c (W.putObj (w.heap.size+1) (.loop o)))
  (h0: ∀o,I 0 ((w.alloc (.deferred (some []))).alloc (.loop o)))
  (hiter: ∀(fn:FuncId) (W:World),(∀k x W,(I k W/\Rec fn a #[p] assign body w.heap.size .ready none W)->can k x->YieldAt Fence.wide 7 Tryz.prog (w.heap.size+1) #[enc x] W fun e W'=> ∃b,e= .returned (.bool b)/\(b=true->I (k+1) W' /\Rec fn a #[p] assign body w.heap.size .ready none W')/\(b=false-> ∃c,IS c W' /\Rec fn a #[p] assign body w.heap.size .done (some c) W'))->
   (I 0 W/\Rec fn a #[p] assign body w.heap.size .ready none W)->CallsIn Fence.wide 8 Tryz.prog F (#[.func (.yield (w.heap.size+1)) #[] #[]]++caps) W fun e W'=>(∃v,e= .returned v)/\((I m W' /\Rec fn a #[p] assign body w.heap.size .ready none W')\/ ∃c,IS c W' /\Rec fn a #[p] assign body w.heap.size .done (some c) W'))
  (hround: ∀(fn:FuncId) k x W,I k W->Rec fn a #[p] assign body w.heap.size .ready none W->can k x->assign.wpIn (Fence.wide.inRound (w.heap.size+1)) 7 Tryz.prog (Exit.then (fun a₁ W₁=>Rec fn a #[p] assign body w.heap.size .ready none W₁/\
    ∀W₂,W₂=W₁.putObj (w.heap.size+1) (.loop (recL fn a #[p] assign body w.heap.size .busy none))->body.wpIn (Fence.wide.inRound (w.heap.size+1)) 7 Tryz.prog (fun e _ W'=>Rec fn a #[p] assign body w.heap.size .busy none W' /\match e with
     | .normal=>I (k+1) W'
     | .ret=>IS .ret W'
     | .exit i=>IS (.exit i) W'
     |_=>False) a₁ W₂) (fun _ _ _=>False)) {tmps:=a.tmps.setIfInBounds p (enc x),defers:=[]} W)
  (hdone: ∀W,I m W->W.heap[w.heap.size]? =some (.deferred (some []))->Q .normal {a with defers:={target:= .collected w.heap.size,args:= #[]}::a.defers} W)
  (hstop: ∀c W,IS c W->W.heap[w.heap.size]? =some (.deferred (some []))->c.wp Tryz.prog Q {a with defers:={target:= .collected w.heap.size,args:= #[]}::a.defers} W):
  (Code.rangeFunc g #[p] assign body).wp Tryz.prog Q a w:=by
 refine(wpIn_wide (n:=9)).1 (wpIn_rangeFunc ?_);intro fn _;refine⟨w.heap.size+1,[{target:= .collected w.heap.size,args:= #[]}],(w.alloc (.deferred (some []))).alloc (.loop (recL fn a #[p] assign body w.heap.size .ready none)),{target:= .fn (.func F) caps,args:= #[.func (.yield (w.heap.size+1)) #[] #[]]},(w.alloc (.deferred (some []))).alloc (.loop (recL fn a #[p] assign body w.heap.size .ready none)),F,#[.func (.yield (w.heap.size+1)) #[] #[]]++caps,(w.alloc (.deferred (some []))).alloc (.loop (recL fn a #[p] assign body w.heap.size .ready none)),?_,?_,?_,?_,(fun h=>by cases h),?_⟩
 ·exact run_enterLoop_outer (P:=Tryz.prog) (w:=w) fn a.tmps #[p] assign body
 ·simp only[resolve,hg]
  simp[go_sem]
 ·intro f' _;trivial
 ·simp[invoke,go_sem,hcall]
 ·refine(hiter fn _ ?hy ⟨h0 _,?hr⟩).mono ?_
  case hr=>
   constructor
   ·rw[Below.heap_alloc _ _ _ (by simp)]
    exact World.alloc_heap_new w _
   ·have:=World.alloc_heap_new (w.alloc (.deferred (some []))) (.loop (recL fn a #[p] assign body w.heap.size .ready none))
    rwa [World.size_alloc] at this
  case hy=>
   rintro k x W ⟨hI,hR⟩ hc;have hyl:=run_yield (P:=Tryz.prog) (args:= #[enc x]) hR.2 (by simp[recL]);refine⟨fn,_,assign,body,hyl,roundIn_of_wpIn trivial ?_⟩;have hz:(#[p].zip #[enc x]).foldl (fun t (q:Tmp×Value)=>t.setIfInBounds q.1 q.2) a.tmps=a.tmps.setIfInBounds p (enc x):=by simp
   have hr0:=hround fn k x W hI hR hc;rw[<-hz] at hr0;refine Go.wpIn_mono hr0 ?_;rintro e a₁ W₁ he;cases e with
   |normal=>
    obtain⟨hR1,hb⟩:=he;refine⟨_,run_beginRound hR1.2 rfl,?_⟩;refine Go.wpIn_mono (hb _ rfl) ?_;rintro e a2 W2 ⟨hR2,he⟩;cases e with
    |normal=>exact⟨_,_,run_endRound none hR2.2,true,rfl,fun _=>⟨hput _ _ _ he,hR2.put⟩,fun h=>by cases h⟩
    |ret=>exact⟨_,_,run_endRound (some .ret) hR2.2,false,rfl,(fun h=>by cases h),fun _=>⟨_,hputS _ _ _ he,hR2.put⟩⟩
    |exit i=>exact⟨_,_,run_endRound (some (.exit i)) hR2.2,false,rfl,(fun h=>by cases h),fun _=>⟨_,hputS _ _ _ he,hR2.put⟩⟩
    |_=>exact he.elim
   |_=>exact he.elim
  rintro e W' ⟨⟨v,rfl⟩,⟨hI,hR⟩|⟨c,hI,hR⟩⟩
  ·exact⟨none,_,run_endLoop hR.2 (fun h=>by cases h),hdone _ (hput _ _ _ hI) (hR.put (st':= .exhausted) (p':=none)).1⟩
  ·exact⟨some c,_,run_endLoop hR.2 (fun h=>by cases h),wpIn_wide.2 (hstop c _ (hputS _ _ _ hI) (hR.put (st':= .exhausted) (p':=some c)).1)⟩
theorem Only.putObj{M:Nat->Prop}{W:World}{L:Nat}(h:M L)(o:Obj):Only M W (W.putObj L o):=
 ⟨rfl,rfl,rfl,by simp[World.putObj],fun k _ hn=>by
  simp only[World.putObj];exact Array.getElem?_setIfInBounds_ne (fun e=>hn (by rw[<-show L=k from e];exact h))⟩
theorem St.putObj{M X0 X:Nat->Prop}{w0 W:World}{bs:List (Nat×Array Value×TypeId)}{G:(Nat->Prop)->World->Prop}(k:St M X0 w0 bs G X W){L:Nat}(hX:X L)(hL:w0.heap.size<=L)(hne: ∀x∈bs,x.1≠L)(o:Obj):St M X0 w0 bs G X (W.putObj L o):=by
 have hsz:(W.putObj L o).heap.size=W.heap.size:=by simp[World.putObj]
 refine⟨k.only.trans (M':=fun b=>b=L) (Only.putObj (M:=fun b=>b=L) rfl o) (fun x hx e=>by have e':x=L:=e;omega),k.sup,fun b hb=>by rw[hsz];exact k.lt b hb,k.own,fun{i b C T} h=> ?_,k.nodup,k.per.step k.fact (Only.putObj hX o),k.per⟩;obtain⟨h1,h2,h3⟩:=k.box h;refine⟨h1,h2,?_⟩;have hn:=hne _ (List.mem_of_getElem? h);have h4:W.heap[b]? =_:=h3;show(W.putObj L o).heap[b]? =_;rw[<-h4];simp only[World.putObj];exact Array.getElem?_setIfInBounds_ne (fun e=>hn e.symm)
theorem St.again{M X0 X:Nat->Prop}{w0 W:World}{bs:List (Nat×Array Value×TypeId)}{G:(Nat->Prop)->World->Prop}(k:St M X0 w0 bs G X W):St (fun b=> ∃x∈bs,x.1=b) X W bs G X W:=
 ⟨Only.refl _ _,fun _ h=>h,k.lt,fun _ h _=>h,fun h=>⟨(k.box h).1,fun _=>⟨_,List.mem_of_getElem? h,rfl⟩,(k.box h).2.2⟩,k.nodup,k.fact,k.per⟩
theorem St.join{M X0 X X':Nat->Prop}{w0 W W':World}{bs bs':List (Nat×Array Value×TypeId)}{G G':(Nat->Prop)->World->Prop}(k:St M X0 w0 bs G X W)(k':St (fun b=> ∃x∈bs,x.1=b) X W bs' G' X' W')(hb: ∀x∈bs',x∈bs'->x.1<w0.heap.size->M x.1):St M X0 w0 bs' G' X' W':=by
 refine⟨k.only.trans k'.only ?_,fun b h=>k'.sup b (k.sup b h),k'.lt,fun b h hlt=> ?_,fun h=>⟨(k'.box h).1,fun hlt=>hb _ (List.mem_of_getElem? h) (List.mem_of_getElem? h) hlt,(k'.box h).2.2⟩,k'.nodup,k'.fact,k'.per⟩
 ·rintro b hlt ⟨x,hx,rfl⟩
  obtain⟨i,hi⟩:=List.getElem?_of_mem hx;exact(k.box hi).2.1 hlt
 ·exact k.own b (k'.own b h (Nat.lt_of_lt_of_le hlt k.only.size)) hlt
def jV(l:List (Array Value))(r:Array Value):List (Array Value):=
 match l.findIdx? (xQ (zX r)) with
 |some i=>l.set i r
 |none=>match l.findIdx? (gtPid (zX r)) with
  |some i=>l.take i++ [r]++l.drop i
  |none=>l++ [r]
theorem find_of_idx{p:Array Value->Bool}{l:List (Array Value)}{i:Nat}(h:jx p l=i):l.findIdx? p=some i:=by
 unfold jx at h;cases hf:l.findIdx? p with
 |none=>rw[hf] at h;simp at h
 |some j=>rw[hf] at h;simp at h;congr 1;omega
theorem find_of_none{p:Array Value->Bool}{l:List (Array Value)}(h:jx p l= -1):l.findIdx? p=none:=by
 unfold jx at h;cases hf:l.findIdx? p with
 |none=>rfl
 |some j=>rw[hf] at h;simp at h
theorem vj(v:Value)(l:List (Array Value))(r:Array Value)(X:Nat->Prop)(w:World)(h:Sl 26 v l X w)(hl: ∀r∈l,Ty yu r)(hr:Ty yu r)(hle:l.length<=1000000):
  Calls Tryz.prog 67 #[v,.agg r] w (OwnR w.heap.size 132 26 (jV l r) w):=by
 have h1: ∀r∈l,yZ r:=fun r hr=>(hl r hr).one;have hs: ∀r∈l,r.size=26:=fun r hr=>(hl r hr).size;have HRS:Hid (r.size=26):=hr.size;have e0:=xq hr 0 rfl;have hlm:l.length<=9223372036854775807:=by omega
 have H:=Lib.hid h;have HL:=Lib.hid hl;have HR:=Lib.hid hr;have H1:=Lib.hid h1;have HS:=Lib.hid hs;clear h hl hr h1 hs;go_enter Tryz.func67,Tryz.ntmps67;go_wp2_with(refine yf rfl 132 (.tmp 1) rfl _ rfl r rfl ?_;intro W1 hk1 hb1 hz1);refine(Zg v l X W1 ((zb _ _ _).step H.out (Only.of_below hb1)) H1.out (by omega)).mono ?_;rintro e W2 ⟨v2,rfl,hown2,hb2⟩;have hk2:=hk1.below hb2;have hs2:Hid (Sl 26 v2 l (fun _=>False) W2):=show Sl 26 v2 l (fun _=>False) W2 from zV hown2 HS.out (fun _ h=>h.elim);have HO2:=Lib.hid hown2;have hz2:=hb2.size;have HB2:=Lib.hid (hb1.trans (hb2.mono (by omega)));obtain⟨c2,f2⟩:=hk2.rules;have hcl2:=own_below hown2;have HCL:=Lib.hid hcl2;clear hb1 hb2 hk1 hown2 hcl2;go_wp2_with fail;refine(at_any v2 l (zQ r 0) (fun _=>False) W2 hs2.out HL.out).mono ?_;rintro e W3 ⟨rfl,hb3⟩;have hk3:=hk2.below hb3;have hz3:=hb3.size;have HB3:=Lib.hid (HB2.out.trans (hb3.mono (by omega)));have HO3:=Lib.hid (HO2.out.kept (row:=none) (w':=W3) ⟨hb3.os,hb3.tape,hb3.output,hb3.size,fun k hk _=>hb3.block k hk⟩ (Classical.em _));have hs3:Hid (Sl 26 v2 l (fun _=>False) W3):=show Sl 26 v2 l (fun _=>False) W3 from(zb _ _ _).step hs2.out (Only.of_below hb3);clear hb3 hk2 c2 f2 HB2 HO2 hs2;obtain⟨c3,f3⟩:=hk3.rules;rcases qG (xQ (zQ r 0)) l with⟨hi,_⟩|⟨i,hi,hlt,_,_⟩
 ·have HI:=Lib.hid hi
  rw[hi];clear hi;go_wp2_with fail;refine(first_any v2 l _ (gtPid (zX r)) (fun _=>False) W3 hs3.out W3.heap.size (Nat.le_refl _) ⟨83,#[.pointer (some ⟨w.heap.size,0,none⟩)],rfl,isFn83,fun q hq W hW=>put1_any q r _ W (HL.out q hq) HR.out (Nat.lt_of_lt_of_le hk3.lt hW.size) ((hW.cell (p:=⟨w.heap.size,0,none⟩) hk3.lt).trans (hk3.rules.1 0))⟩).mono ?_;rintro e W4 ⟨rfl,hb4⟩;have hk4:=hk3.below hb4;have hz4:=hb4.size;have HB4:=Lib.hid (HB3.out.trans (hb4.mono (by omega)));have HO4:=Lib.hid (HO3.out.kept (row:=none) (w':=W4) ⟨hb4.os,hb4.tape,hb4.output,hb4.size,fun k hk _=>hb4.block k hk⟩ (Classical.em _));clear hb4 hk3 c3 f3 HB3 HO3 hs3;obtain⟨c4,f4⟩:=hk4.rules;have hlt4:=hk4.lt;rcases qG (gtPid (zX r)) l with⟨hj,_⟩|⟨j,hj,hlt,_,_⟩
  ·have HP:Hid (jV l r=l++ [r]):=by
    show jV l r=l++ [r];unfold jV;rw[show l.findIdx? (xQ (zX r))=none from find_of_none HI.out,find_of_none hj]
   rw[hj];clear hj;go_wp2_with(first|(refine zZ rfl (.tmp 3) 132 rfl w.heap.size 0 26 rfl r (Tryz.isAgg132 _) (Tryz.sizeOf132 _) HRS.out (qE hk4) ?_)|(refine wpList_rowOf gG rfl (.tmp 26) rfl _ rfl r rfl HRS.out (by decide) (by decide) ?_;intro W5 hk5 hb5 hz5)|(refine yO gG (by decide) rfl (.tmp 25) (.tmp 27) rfl w.heap.size _ l rfl (obase (HO4.out.kept (row:=none) (w':=W5) ⟨hb5.os,hb5.tape,hb5.output,hb5.size,fun k hk _=>hb5.block k hk⟩ (Classical.em _)) (by omega)) (fun _=>False) _ [r] rfl (qU hk5 HRS.out (Nat.le_refl 1) (by unfold maxLen;omega)) (by simpa using HR.out.one) (by simp;omega) (by omega) (by omega) ?_;intro v' w' hown hb _ _ _))
   go_ret
   rw[HP.out];exact⟨v',rfl,hown,HB4.out.trans ((hb5.mono (by omega)).trans hb)⟩
  ·have HP:Hid (jV l r=l.take j++ [r]++l.drop j):=by
    show jV l r=_;unfold jV;rw[show l.findIdx? (xQ (zX r))=none from find_of_none HI.out,find_of_idx hj]
   have hj0:((j:Int)<0)=False:=by rw[eq_iff_iff,iff_false];omega
   rw[hj];clear hj;go_wp2_with(first|(refine zZ rfl (.tmp 3) 132 rfl w.heap.size 0 26 rfl r (Tryz.isAgg132 _) (Tryz.sizeOf132 _) HRS.out (qE hk4) ?_)|(refine wpList_rowOf gG rfl (.tmp 31) rfl _ rfl r rfl HRS.out (by decide) (by decide) ?_;intro W5 hk5 hb5 hz5));have hne:v2.ownBlock≠some W4.heap.size:=fun e=>by have:=(HO4.out.lt _ e).2;omega
   refine(insProc_any W1.heap.size v2 l j W4.heap.size r W5 (HO4.out.kept (row:=none) (w':=W5) ⟨hb5.os,hb5.tape,hb5.output,hb5.size,fun k hk _=>hb5.block k hk⟩ (Classical.em _)) HS.out H1.out (by omega) hk5 HRS.out HR.out.one hne (by omega) (by omega)).mono ?_;rintro e W6 ⟨v6,rfl,hown6,hb6⟩;go_wp2_with fail
   go_ret
   rw[HP.out];exact⟨v6,rfl,obase hown6 (by omega),HB4.out.trans ((hb5.mono (by omega)).trans (hb6.mono (by omega)))⟩
 ·obtain⟨g,cap,cur,rfl,hbg,hkg,hnc,hcm,_,_⟩:=xI HO3.out (by omega)
  have hcap:cap<=9223372036854775807:=hcm;have HP:Hid (jV l r=l.set i r):=by
   show jV l r=_;unfold jV;rw[show l.findIdx? (xQ (zX r))=some i from find_of_idx hi]
  rw[hi];clear hi hcm;go_wp2_with(first|(refine zZ rfl (.tmp 3) 132 rfl w.heap.size 0 26 rfl r (Tryz.isAgg132 _) (Tryz.sizeOf132 _) HRS.out (qE hk3) ?_)|(refine qj HO3.out HS.out rfl i hlt r HRS.out HR.out.one rfl (.tmp 18) (.tmp 17) rfl g cap _ rfl rfl (by rfl) _ rfl rfl (Tryz.sizeOf132 _) ?_;intro W4 hW4 hb4 hz4 _))
  go_ret
  rw[HP.out];exact⟨_,rfl,by rw[List.length_set];exact obase hW4 (by omega),HB3.out.trans (hb4.mono (by omega))⟩
theorem remove1_any(r:Array Value)(b:Nat)(x:Int)(w:World)(hr:Ty yu r)(hb:b<w.heap.size)(hc:w.cell? ⟨b,0,none⟩=some (.int .i64 x)):
  Calls Tryz.prog 170 (#[.agg r]++ #[.pointer (some ⟨b,0,none⟩)]) w fun e w'=>e= .returned (.bool (xQ x r))/\Below w.heap.size w w':=by
 have e0:=xq hr 0 rfl;have hne:b≠w.heap.size:=by omega
 clear hr;go_enter Tryz.func170,Tryz.ntmps170;go_wp2_with(refine yf rfl 132 (.tmp 0) rfl _ rfl r rfl ?_;intro W1 hk1 hb1 hz1;obtain⟨c1,f1⟩:=hk1.rules;have g1:=(hb1.cell (p:=⟨b,0,none⟩) hb).trans hc)
 go_ret
 exact⟨rfl,hb1⟩
theorem isFn170:Zp Tryz.prog 170:=⟨_,Tryz.func170,by kernel_rfl,by kernel_rfl⟩
theorem gQ(v:Value)(l:List (Array Value))(x:Int)(X:Nat->Prop)(w:World)(h:Sl 26 v l X w)(hl: ∀r∈l,Ty yu r)(hle:l.length<=1000000):
  Calls Tryz.prog 133 #[v,.int .i64 x] w (OwnR w.heap.size 132 26 (l.filter fun r=> !xQ x r) w):=by
 have H:=Lib.hid h;have HL:=Lib.hid hl;clear h hl;have H1:Hid (∀r∈l,yZ r):=fun r hr=>(HL.out r hr).one;have HS:Hid (∀r∈l,r.size=26):=fun r hr=>(HL.out r hr).size;go_enter Tryz.func133,Tryz.ntmps133;go_wp2_with(refine yf rfl 3 (.tmp 1) rfl _ rfl #[.int .i64 x] rfl ?_;intro W1 hk1 hb1 hz1);refine(Zg v l X W1 ((zb _ _ _).step H.out (Only.of_below hb1)) H1.out (by omega)).mono ?_;rintro e W2 ⟨v2,rfl,hown2,hb2⟩;have hk2:=hk1.below hb2;have hz2:=hb2.size;have HB2:=Lib.hid (hb1.trans (hb2.mono (by omega)));have HO2:=Lib.hid hown2;clear hb1 hk1 hown2 hb2;have hlt:w.heap.size<W1.heap.size:=by omega
 go_wp2_with fail;refine(delProc_any W1.heap.size v2 l _ (xQ x) W2 HO2.out HS.out H1.out hz2 ⟨170,#[.pointer (some ⟨w.heap.size,0,none⟩)],rfl,isFn170,fun r hr W hW=>remove1_any r _ x W (HL.out r hr) (Nat.lt_of_lt_of_le hk2.lt hW.size) ((hW.cell (p:=⟨w.heap.size,0,none⟩) hlt).trans (hk2.rules.1 0))⟩).mono ?_;rintro e W3 ⟨v3,rfl,hown3,hb3⟩;go_wp2_with fail
 go_ret
 exact⟨v3,rfl,obase hown3 (by omega),HB2.out.trans (hb3.mono (by omega))⟩
def NextR(l:List (Array Value))(n:Int)(w:World)(e:Ending)(w':World):Prop:=
 ∃x:Int,e= .returned (.int .i64 x)/\1<=x/\x<=n+1/\(∀r∈l,zX r<x)/\Below w.heap.size w w'
theorem next_any(v:Value)(l:List (Array Value))(n:Int)(X:Nat->Prop)(w:World)(h:Sl 26 v l X w)(hl: ∀r∈l,Ty yu r)(hn: ∀r∈l,zX r<=n)(h0:0<=n)(h1:n<=1000000000)(hle:l.length<=1000000):
  Calls Tryz.prog 64 #[v] w (NextR l n w):=by
 obtain⟨A,c,rfl,_,_⟩:=h.len;have hlm:l.length<=9223372036854775807:=by omega
 have H:=Lib.hid h;have HL:=Lib.hid hl;have HN:=Lib.hid hn;clear h hl hn;go_enter Tryz.func64,Tryz.ntmps64;go_wp2_with fail
 go_loopw [3,8] (fun m i W=> ∃(k:Nat) (x:Int),k<=l.length/\i= .int .i64 k/\m= .int .i64 x/\0<=x/\x<=n/\Hid (∀j r,j<k->l[j]? =some r->zX r<=x)/\Hid (Below w.heap.size w W)) (fun _ i _=>l.length-(intOf i).toNat)
 case atStart=>exact⟨0,0,Nat.zero_le _,rfl,rfl,by omega,by omega,(fun j _ hj=>by omega),Below.refl _ _⟩
 case round=>
  obtain⟨k,x,hk,rfl,rfl,hx0,hx1,hM,hB⟩:=hrel;by_cases hlt:k<l.length
  ·obtain⟨r,hr⟩: ∃r,l[k]? =some r:=⟨l[k],List.getElem?_eq_getElem hlt⟩
   have hrt:=HL.out r (List.mem_of_getElem? hr);have HRS:Hid (r.size=26):=hrt.size;have HT:=Lib.hid hrt;have hrn:=HN.out r (List.mem_of_getElem? hr);obtain⟨b,o,rfl,hbs,_,_,hcell⟩:=((zb _ _ _).step H.out (Only.of_below hB.out)).row hr (by decide);have HC:=Lib.hid hcell;have HR:=Lib.hid hr;have hsz:=hB.out.size;have e0:=xq hrt 0 rfl;have hrg:=ty_rng hrt 0 rfl;change r[0]? =some (.int .i64 (zX r)) at e0;change -9223372036854775808<=zX r/\zX r<=9223372036854775807 at hrg;obtain⟨y,hy⟩: ∃y,zX r=y:=⟨_,rfl⟩;rw[hy] at e0 hrn hrg;have HY:=Lib.hid hy;have E0:=Lib.hid e0;clear hcell hr hrt hy e0;by_cases hmx:x<y;all_goals
    go_wp2_with(first|(refine zZ rfl (.tmp 10) 132 rfl b _ 26 rfl r (Tryz.isAgg132 _) (Tryz.sizeOf132 _) HRS.out (fun j u hj=>by have:=HC.out j u hj;simpa using this) ?_)|(refine yJ rfl 132 rfl _ (Tryz.zeroValue132 _) ?_;intro W1 hk1 hb1 hz1)|(refine yX rfl (.tmp 5) (.tmp 11) 132 rfl wr.heap.size 0 rfl gO 132 hk1 _ rfl r rfl (by rw[HRS.out];exact Tryz.sizeOf132 _) (by rw[HRS.out];decide) HT.out.one ?_;intro W2 hk2 hb2 hz2 hg2;rw[xU gO r HRS.out] at hk2;have g0:=(hk2.rules.1 0).trans E0.out));have HB2:=Lib.hid (hB.out.trans ((hb1.mono hsz).trans (hb2.mono hsz)));have hnx: ∀z,x<=z->y<=z-> ∀j q,j<k+1->l[j]? =some q->zX q<=z:=fun z h1 h2 j q hj hq=>by
     by_cases e:j=k
     ·subst e;rw[HR.out] at hq;injection hq with hq;subst hq;have:=HY.out;omega
     ·have:=hM.out j q (by omega) hq;omega
    go_roundw
    case rel=>first|exact⟨k+1,y,by omega,by go_num,rfl,by omega,by omega,hnx y (by omega) (by omega),HB2.out⟩|exact⟨k+1,x,by omega,by go_num,rfl,by omega,by omega,hnx x (by omega) (by omega),HB2.out⟩
    case measure=>simp[intOf];omega
  ·obtain rfl:k=l.length:=by omega
   go_wp2_with fail
   go_ret
   exact⟨_,rfl,by omega,by omega,fun r hr=>by obtain⟨j,hj,rfl⟩:=List.getElem_of_mem hr;have:=hM.out j _ hj (List.getElem?_eq_getElem hj);omega,hB.out⟩
structure Kn where
 vP:Value
 vT:Value
 left:Int
 vS:Value
 vPi:Value
 hsz:Int
 vH:Value
 now:Int
 vIm:Value
 vOu:Value
 vIs:Value
 vBx:Value
 cons:ByteArray
 vTr:Value
 vSe:Value
 want:Int
 gone:Int
 P:List (Array Value)
 T:List (Array Value)
 S:List (Array Value)
 Pi:List (Array Value)
 H:List (Array Value)
 Im:List (Array Value)
 Ou:List (Array Value)
 Is:List (Array Value)
 Bx:List (Array Value)
 Tr:List (Array Value)
 Se:List (Array Value)
def KC(x:Kn):Array Value:= #[x.vP,x.vT,.int .i64 x.left,x.vS,x.vPi,.int .i64 x.hsz,x.vH,.int .u64 x.now,x.vIm,x.vOu,x.vIs,x.vBx,.string x.cons,x.vTr,x.vSe,.int .i64 x.want,.int .i64 x.gone]
def BoxOk(r:Array Value)(X:Nat->Prop)(W:World):Prop:=
 ∃(v:Value) (l:List (Array Value)) (x:Int),(r= #[v,.int .i64 x]/\(∀m∈l,Ty kMsg m)/\l.length<=8/\ -9223372036854775808<=x/\x<=9223372036854775807)/\Sl 2 v l X W
theorem per_box(r:Array Value):Per (BoxOk r):=Per.ex fun v=>Per.ex fun l=>Per.ex fun _=>(Zh _).and (zb 2 v l)
structure KSl (x:Kn) (X:Nat->Prop) (W:World):Prop where
 P:Sl 26 x.vP x.P X W
 T:Sl 1 x.vT x.T X W
 S:Sl 2 x.vS x.S X W
 Pi:Sl 3 x.vPi x.Pi X W
 H:Sl 3 x.vH x.H X W
 Im:Sl 1 x.vIm x.Im X W
 Ou:Sl 5 x.vOu x.Ou X W
 Is:Sl 5 x.vIs x.Is X W
 Bx:Sl 2 x.vBx x.Bx X W
 Tr:Sl 4 x.vTr x.Tr X W
 Se:Sl 2 x.vSe x.Se X W
 bx: ∀r,r∈x.Bx->BoxOk r X W
theorem zO(x:Kn):Per (KSl x):=by
 have hb:Per (fun X W=> ∀r,r∈x.Bx->BoxOk r X W):=Per.all fun r=>Per.imp (per_box r);refine⟨?_,?_,?_⟩
 ·rintro X W W' h o
  exact⟨(zb _ _ _).step h.P o,(zb _ _ _).step h.T o,(zb _ _ _).step h.S o,(zb _ _ _).step h.Pi o,(zb _ _ _).step h.H o,(zb _ _ _).step h.Im o,(zb _ _ _).step h.Ou o,(zb _ _ _).step h.Is o,(zb _ _ _).step h.Bx o,(zb _ _ _).step h.Tr o,(zb _ _ _).step h.Se o,hb.step h.bx o⟩
 ·rintro X W b hl h
  exact⟨(zb _ _ _).grow b hl h.P,(zb _ _ _).grow b hl h.T,(zb _ _ _).grow b hl h.S,(zb _ _ _).grow b hl h.Pi,(zb _ _ _).grow b hl h.H,(zb _ _ _).grow b hl h.Im,(zb _ _ _).grow b hl h.Ou,(zb _ _ _).grow b hl h.Is,(zb _ _ _).grow b hl h.Bx,(zb _ _ _).grow b hl h.Tr,(zb _ _ _).grow b hl h.Se,hb.grow b hl h.bx⟩
 ·rintro X Y W hY h
  exact⟨(zb _ _ _).sub hY h.P,(zb _ _ _).sub hY h.T,(zb _ _ _).sub hY h.S,(zb _ _ _).sub hY h.Pi,(zb _ _ _).sub hY h.H,(zb _ _ _).sub hY h.Im,(zb _ _ _).sub hY h.Ou,(zb _ _ _).sub hY h.Is,(zb _ _ _).sub hY h.Bx,(zb _ _ _).sub hY h.Tr,(zb _ _ _).sub hY h.Se,hb.sub hY h.bx⟩
def xh(l:List (Array Value)):List Int:=l.map zX
def ChanOk(r:Array Value):Prop:=Ty gx r/\zQ r 4<=8
def atOf(r:Array Value):Int:=zQ r 3
structure POk (n:Nat) (P:List (Array Value)):Prop where
 ty: ∀r∈P,Ty yu r
 pid: ∀r∈P,1<=zX r/\zX r<=n
 par: ∀r∈P,0<=ym r/\ym r<zX r
 nodup:(xh P).Nodup
 len:P.length<=6
structure TrOk (n:Nat) (now:Int) (Tr:List (Array Value)):Prop where
 ty: ∀r∈Tr,Ty kEvent r
 pid: ∀r∈Tr,1<=zX r
 at_: ∀r∈Tr,atOf r<=now
 rise:Tr.Pairwise (fun a b=>atOf a<=atOf b)
 len:Tr.length<=n
structure KOk (n s m:Nat) (x:Kn):Prop where
 P:POk n x.P
 T: ∀r∈x.T,Pos r
 Tl:x.T.length<=n
 S: ∀r∈x.S,Ty vQ r
 Sl:x.S.length<=s
 Pi: ∀r∈x.Pi,Ty vl r
 Pil:x.Pi.length<=4
 H: ∀r∈x.H,Ty vv r
 Hl:x.H.length<=n
 Im: ∀r∈x.Im,∃t:ByteArray,r= #[.string t]
 Ou: ∀r∈x.Ou,ChanOk r
 Is: ∀r∈x.Is,ChanOk r
 Bxl:x.Bx.length=x.Is.length
 Isl:x.Is.length<=6
 Oul:x.Ou.length<=6
 Tr:TrOk n x.now x.Tr
 Se: ∀r∈x.Se,Ty kOut r
 Sel:x.Se.length<=m
 cons:x.cons.size<=n
 hsz: -9223372036854775808<=x.hsz/\x.hsz<=9223372036854775807
 now:0<=x.now/\x.now<=1000000
 want:0<=x.want/\x.want<=10
 idle:x.Im=[]->x.gone=1
def Liv(P P':List (Array Value)):Prop:= ∀r∈P,qV r≠4-> ∃r'∈P',zX r'=zX r/\qV r'≠4
theorem Liv.refl(P:List (Array Value)):Liv P P:=fun r hr h=>⟨r,hr,rfl,h⟩
theorem Liv.trans{P Q R:List (Array Value)}(h:Liv P Q)(k:Liv Q R):Liv P R:=fun r hr hs=>by
 obtain⟨r',h1,h2,h3⟩:=h r hr hs;obtain⟨r2,k1,k2,k3⟩:=k r' h1 h3;exact⟨r2,k1,k2.trans h2,k3⟩
structure KRel (x x':Kn):Prop where
 Im:x'.Im=x.Im
 Ou:x'.Ou=x.Ou
 Is:x'.Is=x.Is
 now:x'.now=x.now
theorem KRel.refl(x:Kn):KRel x x:=⟨rfl,rfl,rfl,rfl⟩
theorem KRel.trans{x y z:Kn}(h:KRel x y)(k:KRel y z):KRel x z:=⟨k.Im.trans h.Im,k.Ou.trans h.Ou,k.Is.trans h.Is,k.now.trans h.now⟩
structure KPre (b n s m:Nat) (x:Kn) (X:Nat->Prop) (w:World):Prop where
 blk:Blk w b (KC x) 116
 mem:X b
 lt: ∀b,X b->b<w.heap.size
 sl:KSl x X w
 ok:KOk n s m x
 hn:n<=1000000
 hs:s<=1000000
 hm:m<=1000000
def qX(b n s m:Nat)(x:Kn)(X:Nat->Prop)(w:World)(R:Ending->Kn->Prop)(e:Ending)(w':World):Prop:=
 ∃x',R e x' /\KOk n s m x' /\KSl x' X w' /\KRel x x' /\Below w.heap.size (w.setRow b (KC x')) w'
theorem KPre.begin{b n s m:Nat}{x:Kn}{X:Nat->Prop}{w:World}(h:KPre b n s m x X w):St (fun k=>k=b) X w [(b,KC x,116)] (KSl x) X w:=St.begin1 h.lt h.mem h.blk h.sl (zO x)
theorem setRow_ext{w w':World}{b:Nat}{C D:Array Value}{T:TypeId}(hw:Blk w b C T)(ho:Only (fun k=>k=b) w w')(hk:Blk w' b D T):Below w.heap.size (w.setRow b D) w':=by
 have e:(w.setRow b D).heap.size=w.heap.size:=by simp[World.setRow]
 refine⟨ho.os,ho.tape,ho.output,by rw[e];exact ho.size,fun k hlt=> ?_⟩;by_cases hkb:k=b
 ·subst hkb
  exact hk.trans (Zq hw D).symm
 ·exact(ho.block k hlt hkb).trans (setRow_other w b k D hkb).symm
theorem St.kpost{b n' s' m':Nat}{x x':Kn}{X0 X:Nat->Prop}{w0 W:World}{bs:List (Nat×Array Value×TypeId)}{G:(Nat->Prop)->World->Prop}{R:Ending->Kn->Prop}{e:Ending}
  (k:St (fun k=>k=b) X0 w0 bs G X W) (i:Nat) (hi:bs[i]? =some (b,KC x',116)) (hw:Blk w0 b (KC x) 116) (hs:KSl x' X W) (hok:KOk n' s' m' x') (hr:KRel x x') (hR:R e x'):qX b n' s' m' x X0 w0 R e W:=
 ⟨x',hR,hok,(zO x').sub k.sup hs,hr,setRow_ext hw k.only (k.blk hi)⟩
theorem St.kcall{b i:Nat}{x x':Kn}{M X0 X:Nat->Prop}{w0 W W':World}{bs:List (Nat×Array Value×TypeId)}{G:(Nat->Prop)->World->Prop}(k:St M X0 w0 bs G X W)(hi:bs[i]? =some (b,KC x,116))(hb:Below W.heap.size (W.setRow b (KC x')) W')(hs:KSl x' X W'):
  St M X0 w0 (bs.set i (b,KC x',116)) (KSl x') X W':=
 (k.callM hi hb).turn (fun _=>hs) (zO x')
theorem St.kcallG{b i:Nat}{x x':Kn}{M X0 X:Nat->Prop}{w0 W W':World}{bs:List (Nat×Array Value×TypeId)}{G H:(Nat->Prop)->World->Prop}(k:St M X0 w0 bs (fun X W=>G X W/\H X W) X W)(hH:Per H)(hi:bs[i]? =some (b,KC x,116))(hb:Below W.heap.size (W.setRow b (KC x')) W')(hs:KSl x' X W'):
  St M X0 w0 (bs.set i (b,KC x',116)) (fun X W=>KSl x' X W/\H X W) X W':=
 (k.callM hi hb).turn (fun h=>⟨hs,h.2⟩) ((zO x').and hH)
theorem POk.mono{n n':Nat}{P:List (Array Value)}(h:POk n P)(hn:n<=n'):POk n' P:=⟨h.ty,fun r hr=>⟨(h.pid r hr).1,by have:=(h.pid r hr).2;omega⟩,h.par,h.nodup,h.len⟩
theorem TrOk.mono{n n':Nat}{now now':Int}{P:List (Array Value)}(h:TrOk n now P)(hn:n<=n')(h2:now<=now'):TrOk n' now' P:=⟨h.ty,h.pid,fun r hr=>by have:=h.at_ r hr;omega,h.rise,Nat.le_trans h.len hn⟩
theorem TrOk.add{n:Nat}{now:Int}{P:List (Array Value)}(h:TrOk n now P){r:Array Value}(hr:Ty kEvent r)(hp:1<=zX r)(ha:atOf r=now):TrOk (n+1) now (P++ [r]):=by
 refine⟨xl h.ty hr,xl h.pid hp,xl h.at_ (by omega),?_,by have:=h.len;simp;omega⟩;rw[List.pairwise_append];refine⟨h.rise,List.pairwise_singleton _ _,fun a ha' b hb=> ?_⟩;rw[List.mem_singleton.1 hb,ha];exact h.at_ a ha'
theorem KOk.mono{n s m n' s' m':Nat}{x:Kn}(h:KOk n s m x)(hn:n<=n')(hs:s<=s')(hm:m<=m'):KOk n' s' m' x:=
 {h with P:=h.P.mono hn,Tl:=Nat.le_trans h.Tl hn,Sl:=Nat.le_trans h.Sl hs,Hl:=Nat.le_trans h.Hl hn,Tr:=h.Tr.mono hn (Int.le_refl _),Sel:=Nat.le_trans h.Sel hm,cons:=Nat.le_trans h.cons hn}
theorem qy{l:List (Array Value)}{x:Int}:x∈xh l↔ ∃r∈l,zX r=x:=by simp[xh]
theorem xk{l:List (Array Value)}{r:Array Value}(h:r∈l):zX r∈xh l:=qy.2 ⟨r,h,rfl⟩
theorem findIdx_some{p:Array Value->Bool}{l:List (Array Value)}{i:Nat}(h:l.findIdx? p=some i): ∃r,l[i]? =some r/\p r=true:=by
 rw[List.findIdx?_eq_some_iff_getElem] at h;obtain⟨h1,h2,_⟩:=h;exact⟨_,List.getElem?_eq_getElem h1,h2⟩
theorem putL_here{l:List (Array Value)}{r:Array Value}(h:zX r∈xh l): ∃(i:Nat) (r0:Array Value),l[i]? =some r0/\zX r0=zX r/\jV l r=l.set i r:=by
 obtain⟨q,hq,he⟩:=qy.1 h;unfold jV;cases hf:l.findIdx? (xQ (zX r)) with
 |none=>
  rw[List.findIdx?_eq_none_iff] at hf;have:=hf q hq;simp[xQ,he] at this
 |some i=>
  obtain⟨r0,h1,h2⟩:=findIdx_some hf;exact⟨i,r0,h1,by simpa[xQ] using h2,rfl⟩
theorem pids_set{l:List (Array Value)}{r r0:Array Value}{i:Nat}(hi:l[i]? =some r0)(he:zX r0=zX r):xh (l.set i r)=xh l:=by
 unfold xh;rw[List.map_set];apply List.ext_getElem?;intro j;by_cases hj:i=j
 ·subst hj
  have hlt:=(List.getElem?_eq_some_iff.1 hi).1;rw[List.getElem?_set_self (by simpa using hlt),List.getElem?_map,hi];simp[he]
 ·rw[List.getElem?_set_ne hj]
theorem gJ{l:List (Array Value)}{r:Array Value}(h:zX r∈xh l):xh (jV l r)=xh l:=by
 obtain⟨i,r0,h1,h2,h3⟩:=putL_here h;rw[h3];exact pids_set h1 h2
theorem mem_put{l:List (Array Value)}{r q:Array Value}(h:q∈jV l r):q∈l\/q=r:=by
 unfold jV at h;split at h
 ·exact List.mem_or_eq_of_mem_set h
 ·split at h
  ·simp only[List.mem_append,List.mem_singleton] at h
   rcases h with(h|h)|h
   ·exact .inl (List.mem_of_mem_take h)
   ·exact .inr h
   ·exact .inl (List.mem_of_mem_drop h)
  ·simp only[List.mem_append,List.mem_singleton] at h
   exact h
theorem POk.put{n:Nat}{P:List (Array Value)}(h:POk n P){r:Array Value}(ht:Ty yu r)(hin:zX r∈xh P)(hpar:0<=ym r/\ym r<zX r):POk n (jV P r):=by
 obtain⟨q,hq,he⟩:=qy.1 hin;have hp:=h.pid q hq;rw[he] at hp;obtain⟨i,r0,h1,h2,h3⟩:=putL_here hin;refine⟨fun p hp=> ?_,fun p hp'=> ?_,fun p hp=> ?_,by rw[gJ hin];exact h.nodup,by rw[h3,List.length_set];exact h.len⟩
 ·rcases mem_put hp with hp|rfl
  ·exact h.ty p hp
  ·exact ht
 ·rcases mem_put hp' with hp'|rfl
  ·exact h.pid p hp'
  ·exact hp
 ·rcases mem_put hp with hp|rfl
  ·exact h.par p hp
  ·exact hpar
theorem liv_put{n:Nat}{P:List (Array Value)}(_h:POk n P){r:Array Value}(hin:zX r∈xh P)(hs: ∀q∈P,zX q=zX r->qV q≠4->qV r≠4):Liv P (jV P r):=by
 obtain⟨i,r0,h1,h2,h3⟩:=putL_here hin;intro q hq hst;rw[h3];have hlt:=(List.getElem?_eq_some_iff.1 h1).1;by_cases he:zX q=zX r
 ·exact⟨r,List.mem_of_getElem? (List.getElem?_set_self hlt),he.symm,hs q hq he hst⟩
 ·obtain⟨j,hj⟩:=List.getElem?_of_mem hq
  refine⟨q,?_,rfl,hst⟩;have hne:i≠j:=fun e=>by
   subst e;rw[h1] at hj;injection hj with hj;subst hj;exact he h2
  exact List.mem_of_getElem? (by rw[List.getElem?_set_ne hne];exact hj)
theorem POk.one{n:Nat}{P:List (Array Value)}(h:POk n P){q r:Array Value}(hq:q∈P)(hr:r∈P)(he:zX q=zX r):q=r:=by
 have hn:=h.nodup;unfold xh at hn;obtain⟨i,hi,rfl⟩:=List.getElem_of_mem hq;obtain⟨j,hj,rfl⟩:=List.getElem_of_mem hr;by_cases hij:i=j
 ·subst hij;rfl
 ·exfalso
  have:=List.pairwise_iff_getElem.1 hn;rcases Nat.lt_or_ge i j with hlt|hge
  ·exact this i j (by simpa using hi) (by simpa using hj) hlt (by simpa using he)
  ·exact this j i (by simpa using hj) (by simpa using hi) (by omega) (by simpa using he.symm)
theorem POk.putNew{n:Nat}{P:List (Array Value)}(h:POk n P){r:Array Value}(ht:Ty yu r)(hout: ∀q∈P,zX q<zX r)(hp:1<=zX r/\zX r<=n)(hpar:0<=ym r/\ym r<zX r)(hl:P.length<6):POk n (jV P r)/\Liv P (jV P r)/\(∀x∈xh P,x∈xh (jV P r))/\zX r∈xh (jV P r):=by
 have e:jV P r=P++ [r]:=by
  unfold jV;have e1:P.findIdx? (xQ (zX r))=none:=by
   rw[List.findIdx?_eq_none_iff];intro q hq;have:=hout q hq;simp[xQ];omega
  have e2:P.findIdx? (gtPid (zX r))=none:=by
   rw[List.findIdx?_eq_none_iff];intro q hq;have:=hout q hq;simp[gtPid];omega
  rw[e1,e2]
 rw[e];refine⟨⟨xl h.ty ht,xl h.pid hp,xl h.par hpar,?_,by simp;omega⟩,fun q hq hs=>⟨q,List.mem_append_left _ hq,rfl,hs⟩,fun x hx=> ?_,xk (by simp)⟩
 ·unfold xh
  rw[List.map_append,List.nodup_append];refine⟨h.nodup,by simp,fun a ha b hb=> ?_⟩;obtain⟨q,hq,rfl⟩:=List.mem_map.1 ha;simp only[List.map_cons,List.map_nil,List.mem_singleton] at hb;subst hb;have:=hout q hq;omega
 ·obtain⟨q,hq,rfl⟩:=qy.1 hx
  exact xk (List.mem_append_left _ hq)
theorem POk.filter{n:Nat}{P:List (Array Value)}(h:POk n P)(p:Array Value->Bool):POk n (P.filter p):=
 ⟨fun r hr=>h.ty r (List.mem_filter.1 hr).1,fun r hr=>h.pid r (List.mem_filter.1 hr).1,fun r hr=>h.par r (List.mem_filter.1 hr).1,(List.Sublist.map _ List.filter_sublist).nodup h.nodup,Nat.le_trans (List.length_filter_le _ _) h.len⟩
theorem liv_filter{n:Nat}{P:List (Array Value)}(h:POk n P){y:Int}(hd: ∃r∈P,zX r=y/\qV r=4):Liv P (P.filter fun r=> !xQ y r):=by
 obtain⟨d,hdm,hdp,hds⟩:=hd;intro q hq hs;refine⟨q,List.mem_filter.2 ⟨hq,?_⟩,rfl,hs⟩;by_cases he:zX q=y
 ·have:=h.one hq hdm (he.trans hdp.symm)
  subst this;exact absurd hds hs
 ·simp[xQ,he]
theorem gz{P:List (Array Value)}{x y:Int}(h:x∈xh P)(hne:x≠y):x∈xh (P.filter fun r=> !xQ y r):=by
 obtain⟨q,hq,rfl⟩:=qy.1 h;exact xk (List.mem_filter.2 ⟨hq,by simp[xQ,hne]⟩)
theorem intAt_patch1(r:Array Value)(y:Int)(j:Nat)(hr:2<=r.size)(hj:j≠1):zQ (patch r 1 #[.int .i64 y]) j=zQ r j:=by
 unfold zQ;rcases Nat.lt_or_ge j 1 with h|h
 ·rw[jw r _ 1 j h (by omega)]
 ·rw[gU r _ 1 j (by simp;omega) (by omega)]
theorem adopt_pid{x y:Int}{r:Array Value}(h:Ty yu r):zX (adopt x y r)=zX r/\qV (adopt x y r)=qV r/\(ym (adopt x y r)=ym r\/(ym r=x/\ym (adopt x y r)=y)):=by
 have hs:r.size=26:=h.size;unfold adopt;split
 ·rename_i he
  refine⟨intAt_patch1 r y 0 (by omega) (by omega),intAt_patch1 r y 2 (by omega) (by omega),.inr ⟨by simpa using he,?_⟩⟩;unfold ym zQ;have:=Zt r #[.int .i64 y] 1 0 (by simp) (by omega);rw[Nat.add_zero] at this;rw[this];rfl
 ·exact⟨rfl,rfl,.inl rfl⟩
theorem pids_adopt{n:Nat}{P:List (Array Value)}(h:POk n P)(x y:Int):xh (P.map (adopt x y))=xh P:=by
 unfold xh;rw[List.map_map];exact List.map_congr_left fun r hr=>(adopt_pid (h.ty r hr)).1
theorem POk.adopt{n:Nat}{P:List (Array Value)}(h:POk n P){x:Int}(hx:1<=x):POk n (P.map (adopt x 1)):=by
 refine⟨fun r hr=> ?_,fun r hr=> ?_,fun r hr=> ?_,by rw[pids_adopt h];exact h.nodup,by rw[List.length_map];exact h.len⟩<;>obtain⟨q,hq,rfl⟩:=List.mem_map.1 hr<;>have hp:=adopt_pid (x:=x) (y:=1) (h.ty q hq)
 ·exact adopt_ty (h.ty q hq) (by omega) (by omega)
 ·rw[hp.1];exact h.pid q hq
 ·rw[hp.1]
  have h1:=h.par q hq;rcases hp.2.2 with e|⟨e1,e2⟩
  ·rw[e];exact h1
  ·rw[e2];omega
theorem yq{k:Kd}{ks:List Kd}{l:List Value}(h:TyL (k::ks) l): ∃v l',l=v::l' /\okV k v/\TyL ks l':=by
 cases l with
 |nil=>exact h.elim
 |cons v l=>exact⟨v,l,rfl,h.1,h.2⟩
theorem gE{l:List Value}(h:TyL [] l):l=[]:=by
 cases l with
 |nil=>rfl
 |cons v l=>exact h.elim
theorem Zd{r:Array Value}(h:Ty yu r): ∃(a b c:Int) (c0 c1 c2 c3 c4 c5 c6 c7 c8:Int) (m:ByteArray) (d:Int) (f0:Int) (g0:Bool) (f1:Int) (g1:Bool) (f2:Int) (g2:Bool) (f3:Int) (g3:Bool) (n0 n1 n2 n3:Int),
  r= #[.int .i64 a,.int .i64 b,.int .i64 c,.int .u32 c0,.int .u32 c1,.int .u32 c2,.int .u32 c3,.int .u32 c4,.int .u32 c5,.int .u32 c6,.int .u32 c7,.int .u32 c8,.string m,.int .i64 d,.int .i64 f0,.bool g0,.int .i64 f1,.bool g1,.int .i64 f2,.bool g2,.int .i64 f3,.bool g3,.int .u32 n0,.int .u32 n1,.int .u32 n2,.int .u32 n3]:=by
 obtain⟨l⟩:=r;have h0:TyL yu l:=h;unfold yu at h0;clear h;obtain⟨_,l0,rfl,⟨a,rfl,_⟩,h1⟩:=yq h0;clear h0;obtain⟨_,l1,rfl,⟨b,rfl,_⟩,h2⟩:=yq h1;clear h1;obtain⟨_,l2,rfl,⟨c,rfl,_⟩,h3⟩:=yq h2;clear h2;obtain⟨_,l3,rfl,⟨c0,rfl,_⟩,h4⟩:=yq h3;clear h3;obtain⟨_,l4,rfl,⟨c1,rfl,_⟩,h5⟩:=yq h4;clear h4;obtain⟨_,l5,rfl,⟨c2,rfl,_⟩,h6⟩:=yq h5;clear h5;obtain⟨_,l6,rfl,⟨c3,rfl,_⟩,h7⟩:=yq h6;clear h6;obtain⟨_,l7,rfl,⟨c4,rfl,_⟩,h8⟩:=yq h7;clear h7;obtain⟨_,l8,rfl,⟨c5,rfl,_⟩,h9⟩:=yq h8;clear h8;obtain⟨_,l9,rfl,⟨c6,rfl,_⟩,h10⟩:=yq h9;clear h9;obtain⟨_,l10,rfl,⟨c7,rfl,_⟩,h11⟩:=yq h10;clear h10;obtain⟨_,l11,rfl,⟨c8,rfl,_⟩,h12⟩:=yq h11;clear h11;obtain⟨_,l12,rfl,⟨m,rfl,_⟩,h13⟩:=yq h12;clear h12;obtain⟨_,l13,rfl,⟨d,rfl,_⟩,h14⟩:=yq h13;clear h13;obtain⟨_,l14,rfl,⟨f0,rfl,_⟩,h15⟩:=yq h14;clear h14;obtain⟨_,l15,rfl,⟨g0,rfl⟩,h16⟩:=yq h15;clear h15;obtain⟨_,l16,rfl,⟨f1,rfl,_⟩,h17⟩:=yq h16;clear h16;obtain⟨_,l17,rfl,⟨g1,rfl⟩,h18⟩:=yq h17;clear h17;obtain⟨_,l18,rfl,⟨f2,rfl,_⟩,h19⟩:=yq h18;clear h18;obtain⟨_,l19,rfl,⟨g2,rfl⟩,h20⟩:=yq h19;clear h19;obtain⟨_,l20,rfl,⟨f3,rfl,_⟩,h21⟩:=yq h20;clear h20;obtain⟨_,l21,rfl,⟨g3,rfl⟩,h22⟩:=yq h21;clear h21;obtain⟨_,l22,rfl,⟨n0,rfl,_⟩,h23⟩:=yq h22;clear h22;obtain⟨_,l23,rfl,⟨n1,rfl,_⟩,h24⟩:=yq h23;clear h23;obtain⟨_,l24,rfl,⟨n2,rfl,_⟩,h25⟩:=yq h24;clear h24;obtain⟨_,l25,rfl,⟨n3,rfl,_⟩,h26⟩:=yq h25;clear h25;obtain rfl:=gE h26;exact⟨a,b,c,c0,c1,c2,c3,c4,c5,c6,c7,c8,m,d,f0,g0,f1,g1,f2,g2,f3,g3,n0,n1,n2,n3,rfl⟩
theorem xu{base e size n:Nat}{v:Value}{xs:List Value}{w:World}(h:w.ownsRow base e size v n xs):v.oneCell'=true:=by
 obtain⟨A,c,rfl,_⟩:=yb h;rfl
theorem Sl.one{size:Nat}{v:Value}{l:List (Array Value)}{X:Nat->Prop}{W:World}(h:Sl size v l X W):v.oneCell'=true:=by
 obtain⟨A,c,rfl,_⟩:=h.len;rfl
theorem cpu_lit{r:Array Value}(h:Ty vZ r): ∃(c0 c1 c2 c3 c4 c5 c6 c7 c8:Int),r= #[.int .u32 c0,.int .u32 c1,.int .u32 c2,.int .u32 c3,.int .u32 c4,.int .u32 c5,.int .u32 c6,.int .u32 c7,.int .u32 c8]:=by
 obtain⟨l⟩:=r;have h0:TyL vZ l:=h;unfold vZ at h0;clear h;obtain⟨_,l0,rfl,⟨c0,rfl,_⟩,h1⟩:=yq h0;clear h0;obtain⟨_,l1,rfl,⟨c1,rfl,_⟩,h2⟩:=yq h1;clear h1;obtain⟨_,l2,rfl,⟨c2,rfl,_⟩,h3⟩:=yq h2;clear h2;obtain⟨_,l3,rfl,⟨c3,rfl,_⟩,h4⟩:=yq h3;clear h3;obtain⟨_,l4,rfl,⟨c4,rfl,_⟩,h5⟩:=yq h4;clear h4;obtain⟨_,l5,rfl,⟨c5,rfl,_⟩,h6⟩:=yq h5;clear h5;obtain⟨_,l6,rfl,⟨c6,rfl,_⟩,h7⟩:=yq h6;clear h6;obtain⟨_,l7,rfl,⟨c7,rfl,_⟩,h8⟩:=yq h7;clear h7;obtain⟨_,l8,rfl,⟨c8,rfl,_⟩,h9⟩:=yq h8;clear h8;obtain rfl:=gE h9;exact⟨c0,c1,c2,c3,c4,c5,c6,c7,c8,rfl⟩
end Go.Proofs.YtaccidkgnkmagaaGreatDoor.Top
namespace Go.Proofs.YtaccidkgnkmagaaGreatDoor
open Go.RowKit
section
variable{P:Program}{md:Region.Mode}{ops:Array Oper}{Q:Exit->Act->World->Prop}{S:World->Prop}{s:Nat}
theorem wpAnyS_three{i j k:Nat}{oi oj ok:Oper}{fuel:Nat}{listed:Array Bool}{a:Act}{w:World}(hr:Region.ready md ops listed=[i,j,k])(hi:ops.toList[i]? =some oi)(hj:ops.toList[j]? =some oj)(hk:ops.toList[k]? =some ok)
  (h1:wpList P ops (Exit.then (fun a' w'=>Then2 (Owed i s listed (S w')) (qg P md ops Q S s fuel (listed.setIfInBounds i true) a' w')) Q) [oi] a w)
  (h2:wpList P ops (Exit.then (fun a' w'=>Then2 (Owed j s listed (S w')) (qg P md ops Q S s fuel (listed.setIfInBounds j true) a' w')) Q) [oj] a w)
  (h3:wpList P ops (Exit.then (fun a' w'=>Then2 (Owed k s listed (S w')) (qg P md ops Q S s fuel (listed.setIfInBounds k true) a' w')) Q) [ok] a w):qg P md ops Q S s (fuel+1) listed a w:=by
 have hi:=(Array.getElem?_toList ..).symm.trans hi;have hj:=(Array.getElem?_toList ..).symm.trans hj;have hk:=(Array.getElem?_toList ..).symm.trans hk;refine⟨fun h0=>(by rw[hr] at h0;cases h0),fun x hx=> ?_⟩;rw[hr] at hx;have:x=i\/x=j\/x=k:=by simpa using hx
 rcases this with rfl|rfl|rfl
 ·exact Zf hi h1
 ·exact Zf hj h2
 ·exact Zf hk h3
end
namespace Top
structure Rw (size n cap:Nat) (C:Array Value) (l:List (Array Value)):Prop where
 nc:n<=cap
 cm:cap<=maxLen
 cs:C.size=cap*size
 take:C.toList.take (n*size)=yy l
 len:l.length=n
 sz: ∀r∈l,r.size=size
theorem Rw.fits{size n cap:Nat}{C:Array Value}{l:List (Array Value)}(h:Rw size n cap C l){i:Nat}(hi:i<n):i*size+size<=C.size:=by
 have h1:(i+1)*size<=n*size:=Nat.mul_le_mul_right _ hi;have h2:n*size<=cap*size:=Nat.mul_le_mul_right _ h.nc;rw[Nat.add_mul] at h1;have:=h.cs;omega
theorem Rw.set{size n cap:Nat}{C:Array Value}{l:List (Array Value)}(h:Rw size n cap C l){i:Nat}(hi:i<n){r:Array Value}(hr:r.size=size):Rw size n cap (patch C (i*size) r) (l.set i r):=by
 have hf:=h.fits hi;have h1:(i+1)*size<=n*size:=Nat.mul_le_mul_right _ hi;have h2:n*size<=cap*size:=Nat.mul_le_mul_right _ h.nc;have hcs:=h.cs;rw[Nat.add_mul] at h1;refine⟨h.nc,h.cm,by rw[yd _ _ _ (by omega)];exact h.cs,?_,by rw[List.length_set];exact h.len,fun q hq=> ?_⟩
 ·rw[take_patch C r (i*size) (n*size) (by omega) (by omega),h.take,flat_set h.sz (by rw[h.len];exact hi) hr]
 ·rcases List.mem_or_eq_of_mem_set hq with hq|rfl
  ·exact h.sz q hq
  ·exact hr
theorem Rw.sl{size n cap:Nat}{C:Array Value}{l:List (Array Value)}(h:Rw size n cap C l){W:World}{g:Nat}{T:TypeId}(hk:Blk W g C T){X:Nat->Prop}(hX: ¬X g):Sl size (.slice (some ⟨g,0,none⟩) n cap) l X W:=by
 have hlen:=h.len;subst hlen;refine⟨_,cap,rfl,⟨by rw[xz h.sz],h.nc,h.cm,(fun e=>by cases e),fun b hb=> ?_⟩,h.sz,fun b hb _=>by injection hb with hb;subst hb;exact hX⟩;injection hb with hb
 subst hb;refine⟨fun _=>hk.lt,fun j u hu=> ?_⟩;rw[xY,Nat.zero_add,hk.rules.1];rw[<-h.take,List.getElem?_take] at hu;split at hu
 ·simpa using hu
 ·cases hu
section
variable{M X0 X:Nat->Prop}{w0 W W':World}{bs:List (Nat×Array Value×TypeId)}{G:(Nat->Prop)->World->Prop}
theorem St.adopt(k:St M X0 w0 bs G X W)(hb:Below W.heap.size W W'){g:Nat}{C:Array Value}{T:TypeId}(hg:W.heap.size<=g)(hk:Blk W' g C T):St M X0 w0 ((g,C,T)::bs) G (fun b=>X b\/b=g) W':=by
 have k':=k.call hb;have hw0:=k.only.size;refine⟨k'.only,fun b h=> .inl (k.sup b h),?_,?_,?_,?_,k.per.step (k.per.grow g hg k.fact) (Only.of_below hb),k.per⟩
 ·rintro b (h|rfl)
  ·exact k'.lt b h
  ·exact hk.lt
 ·rintro b (h|rfl) hlt
  ·exact k.own b h hlt
  ·omega
 ·intro i b C' T' h
  cases i with
  |zero=>
   simp only[List.getElem?_cons_zero] at h;injection h with h;injection h with h1 h2;injection h2 with h2 h3;subst h1 h2 h3;exact⟨.inr rfl,fun hlt=>(by omega),hk⟩
  |succ i=>
   simp only[List.getElem?_cons_succ] at h;exact⟨.inl (k'.box h).1,(k'.box h).2.1,(k'.box h).2.2⟩
 ·intro i j x y h1 h2 hne
  cases i with
  |zero=>
   cases j with
   |zero=>exact absurd rfl hne
   |succ j=>
    simp only[List.getElem?_cons_zero,List.getElem?_cons_succ] at h1 h2;injection h1 with h1;subst h1;have:=k.lt _ (k.box h2).1;intro e;dsimp only at e;omega
  |succ i=>
   cases j with
   |zero=>
    simp only[List.getElem?_cons_zero,List.getElem?_cons_succ] at h1 h2;injection h2 with h2;subst h2;have:=k.lt _ (k.box h1).1;intro e;dsimp only at e;omega
   |succ j=>
    simp only[List.getElem?_cons_succ] at h1 h2;exact k.nodup h1 h2 (by omega)
theorem St.swap{x y:Nat×Array Value×TypeId}(k:St M X0 w0 (x::y::bs) G X W):St M X0 w0 (y::x::bs) G X W:=by
 have ex: ∀{j:Nat} {z:Nat×Array Value×TypeId},(y::x::bs)[j]? =some z->(x::y::bs)[if j=0 then 1 else if j=1 then 0 else j]? =some z:=by
  intro j z h;rcases j with _|_|j
  ·simpa using h
  ·simpa using h
  ·simpa using h
 refine⟨k.only,k.sup,k.lt,k.own,fun h=>k.box (ex h),fun{i j} _ _ h1 h2 hne=>k.nodup (ex h1) (ex h2) ?_,k.fact,k.per⟩;intro e;apply hne;revert e;split<;>split<;>(try split)<;>(try split)<;>omega
theorem St.release{i g:Nat}{C:Array Value}{T:TypeId}(k:St M X0 w0 bs G X W)(hi:bs[i]? =some (g,C,T))(hg:w0.heap.size<=g)(hX0: ∀b,X0 b->b<w0.heap.size)(bs':List (Nat×Array Value×TypeId))(hbs:bs.eraseIdx i=bs'):St M X0 w0 bs' G (fun b=>X b/\b≠g) W:=by
 subst hbs;have ex: ∀{j:Nat} {x:Nat×Array Value×TypeId},(bs.eraseIdx i)[j]? =some x-> ∃j',j'≠i/\bs[j']? =some x/\(j'=if j<i then j else j+1):=by
  intro j x h;rw[List.getElem?_eraseIdx] at h;split at h
  ·rename_i hlt
   exact⟨j,by omega,h,by rw[if_pos hlt]⟩
  ·rename_i hlt
   exact⟨j+1,by omega,h,by rw[if_neg hlt]⟩
 refine⟨k.only,fun b h=>⟨k.sup b h,fun e=>by have:=hX0 b h;omega⟩,fun b h=>k.lt b h.1,fun b h=>k.own b h.1,?_,?_,k.per.sub (fun b h=>h.1) k.fact,k.per⟩
 ·intro j b C' T' h
  obtain⟨j',hne,hj,_⟩:=ex h;have hb:=k.box hj;exact⟨⟨hb.1,fun e=>k.nodup hj hi hne e⟩,hb.2⟩
 ·intro p q x y hp hq hne
  obtain⟨p',h1,hp',e1⟩:=ex hp;obtain⟨q',h2,hq',e2⟩:=ex hq;refine k.nodup hp' hq' ?_;rw[e1,e2];split<;>split<;>omega
end
theorem xJ{P:Program}{w:World}{fn:Func}{p q:Tmp}{u v:Value}(h:fn.results= #[.tmp p,.tmp q]){tmps:Array Value}(hp:tmps.toList[p]? =some u)(hq:tmps.toList[q]? =some v):(results fn tmps).run P w= .ok (.tuple #[u,v]) w:=by
 have hp':tmps[p]? =some u:=by rw[<-Array.getElem?_toList];exact hp
 have hq':tmps[q]? =some v:=by rw[<-Array.getElem?_toList];exact hq
 simp[results,h,hp',hq']
theorem zh{P:Program}{w:World}{fn:Func}{p:Tmp}{u:Value}(h:fn.results= #[.tmp p]){tmps:Array Value}(hp:tmps.toList[p]? =some u):(results fn tmps).run P w= .ok u w:=by
 have hp':tmps[p]? =some u:=by rw[<-Array.getElem?_toList];exact hp
 simp[results,h,hp']
theorem Stay.get{M X0:Nat->Prop}{w0 W:World}{bs:List (Nat×Array Value×TypeId)}{G:(Nat->Prop)->World->Prop}(h:Stay M X0 w0 bs G W): ∃X,G X W:=by
 obtain⟨X,h⟩:=h;exact⟨X,h.fact⟩
theorem jJ{P:Program}{size n c b o:Nat}{l:List (Array Value)}{X:Nat->Prop}{W:World}(h:Sl size (.slice (some ⟨b,o,none⟩) n c) l X W){i:Nat}{r:Array Value}(hr:l[i]? =some r)(h0:0<size){T:TypeId}(hagg:(isAgg T).run P W= .ok true W)(hsz:(sizeOf T).run P W= .ok size W):
  (loadVar T ⟨b,o+i*size,none⟩).run P W= .ok (.agg r) W:=by
 obtain⟨b',o',e1,_,_,hrs,hc⟩:=h.row hr h0;injection e1 with e1;injection e1 with e2 e3;subst e2 e3;have hl:=run_loadCells_list (P:=P) (w:=W) ⟨b,o+i*size,none⟩ r.toList (fun j v hj=>by
  have e:(⟨b,o+i*size,none⟩:Addr).add j=⟨b,o+i*size+j,none⟩:=by unfold Addr.add;split<;>simp_all
  rw[e];exact hc j v (by rw[<-Array.getElem?_toList];exact hj))
 simp only[Array.length_toList,hrs,Array.toArray_toList] at hl;simp[loadVar,hagg,hsz,hl]
end Top
end Go.Proofs.YtaccidkgnkmagaaGreatDoor
namespace Go.Proofs.YtaccidkgnkmagaaGreatDoor.Top
open Go.RowKit
def SetR(size:Nat)(l:List (Array Value))(X:Nat->Prop)(w:World)(e:Ending)(w':World):Prop:=
 ∃v,e= .returned v/\Sl size v l X w' /\Below w.heap.size w w'
theorem Zy(v:Value)(l:List (Array Value))(i:Nat)(r:Array Value)(X0:Nat->Prop)(w:World)(h:Sl 19 v l X0 w)(h1: ∀r∈l,yZ r)(hle:l.length<=1000000)(hX: ∀b,X0 b->b<w.heap.size)(hi:i<l.length)(hr:r.size=19)(ho:yZ r):
  Calls Tryz.prog 20 #[v,.int .i64 i,.agg r] w (SetR 19 (l.set i r) X0 w):=by
 have k:Hid (St (fun _=>False) X0 w [] (Sl 19 v l) X0 w):=St.begin hX h (zb _ _ _);have HS:Hid (∀r∈l,r.size=19):=zj (by obtain⟨_,_,_,_,h,_⟩:=h;exact h);have HL:=Lib.hid h1;clear h h1;go_enter Tryz.func20,Tryz.ntmps20;go_wp2_with((with_reducible refine zI ?_);refine bxa k (T:=58) rfl ?_;clear k;intro c58 X W k);refine(cloneSeat_any v l _ _ k.out.fact HL.out (by omega)).mono ?_;rintro e W1 ⟨v2,rfl,hown,hb1⟩;obtain⟨A2,c2,rfl,_⟩:=yb hown;obtain⟨g,cap,cur,ev,hbg,_,hnc,hcm,_,_⟩:=xI hown (by omega);injection ev with ev1 _ ev2
 subst ev1 ev2;unfold maxLen at hcm;have hki:(i:Int)<l.length:=by omega
 have hkc:(i:Int)<c2:=by omega
 have HO:=Lib.hid hown;have HB:=Lib.hid hb1;have K0:=k;replace k:=zj (k.out.call hb1);have HI:=Lib.hid hi;clear hown hb1 hi;go_wp2_with(first|((with_reducible refine zx ?_);refine qj HO.out HS.out rfl i HI.out r hr ho rfl (.tmp 12) (.tmp 11) rfl g c2 _ rfl rfl (by rfl) _ rfl rfl (Tryz.sizeOf58 _) ?_;intro W3 hown3 hb3 hz3 _)|((with_reducible refine zz ?_);refine lda k rfl rfl .a0 (by with_reducible assumption) ?_));exact bodyPost_ret (zh rfl rfl) rfl ⟨_,rfl,zV (base:=_) (e:=58) (by rw[List.length_set];exact hown3) (fun q hq=>by rcases List.mem_or_eq_of_mem_set hq with hq|hq;exact HS.out q hq;rw[hq];exact hr) K0.out.lt|>fun s=>(zb _ _ _).sub K0.out.sup s,(K0.out.call (HB.out.trans hb3)).end⟩
theorem setStamps_any(v:Value)(l:List (Array Value))(i:Nat)(u:Value)(X0:Nat->Prop)(w:World)(h:Sl 1 v l X0 w)(h1: ∀r∈l,yZ r)(hle:l.length<=1000000)(hX: ∀b,X0 b->b<w.heap.size)(hi:i<l.length)(hu:u.cells= #[u])(ho:u.oneCell'=true):
  Calls Tryz.prog 59 #[v,.int .i64 i,u] w (SetR 1 (l.set i #[u]) X0 w):=by
 have k:Hid (St (fun _=>False) X0 w [] (Sl 1 v l) X0 w):=St.begin hX h (zb _ _ _);have HS:Hid (∀r∈l,r.size=1):=zj (by obtain⟨_,_,_,_,h,_⟩:=h;exact h);have HL:=Lib.hid h1;clear h h1;go_enter Tryz.func59,Tryz.ntmps59;go_wp2_with fail;refine(cloneStamps_any v l _ _ k.out.fact HL.out (by omega)).mono ?_;rintro e W1 ⟨v2,rfl,hown,hb1⟩;obtain⟨A2,c2,rfl,_⟩:=yb hown;obtain⟨g,cap,cur,ev,hbg,_,hnc,hcm,_,_⟩:=xI hown (by omega);injection ev with ev1 _ ev2
 subst ev1 ev2;unfold maxLen at hcm;have hki:(i:Int)<l.length:=by omega
 have hkc:(i:Int)<c2:=by omega
 have HO:=Lib.hid hown;have HB:=Lib.hid hb1;have K0:=k;replace k:=zj (k.out.call hb1);have HI:=Lib.hid hi;clear hown hb1 hi;go_wp2_with(first|((with_reducible refine zx ?_);refine qj HO.out HS.out rfl i HI.out #[u] rfl (zm (by simp[ho])) rfl (.tmp 12) (.tmp 11) rfl g c2 _ rfl rfl (by omega) _ rfl hu (Tryz.sizeOf143 _) ?_;intro W3 hown3 hb3 hz3 _)|fail);exact bodyPost_ret (zh rfl rfl) rfl ⟨_,rfl,zV (base:=_) (e:=143) (by rw[List.length_set];exact hown3) (fun q hq=>by rcases List.mem_or_eq_of_mem_set hq with hq|hq;exact HS.out q hq;rw[hq];rfl) K0.out.lt|>fun s=>(zb _ _ _).sub K0.out.sup s,(K0.out.call (HB.out.trans hb3)).end⟩
end Go.Proofs.YtaccidkgnkmagaaGreatDoor.Top
