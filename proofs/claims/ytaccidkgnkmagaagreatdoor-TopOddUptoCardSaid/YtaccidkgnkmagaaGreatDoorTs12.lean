/-
  Walks and laws of the whole machine: Loop2, Dead, Child, Kern10, Kern11. Conditions: each theorem names its own.
-/
import Derived.Test.YtaccidkgnkmagaaGreatDoorTs11
set_option maxRecDepth 16000
set_option maxHeartbeats 12800000
set_option linter.unusedVariables false
set_option linter.unusedSimpArgs false
namespace Go.Proofs.YtaccidkgnkmagaaGreatDoor.Top
open Go.RowKit
section
variable{M X0 X X':Nat->Prop}{w0 W W':World}{bs bs':List (Nat×Array Value×TypeId)}{G G':(Nat->Prop)->World->Prop}
theorem St.loop2(k:St M X0 w0 bs G X W)(o1 o2:Obj):St M X0 w0 bs G (fun b=>(X b\/b=W.heap.size)\/b=W.heap.size+1) ((W.alloc o1).alloc o2):=by
 have hw:=k.only.size;have h1:Only (fun _=>False) W ((W.alloc o1).alloc o2):=(Only.alloc W o1).trans (Only.alloc _ o2) (fun _ _ x=>x);have k':=k.step h1;refine⟨k'.only,fun b h=> .inl (.inl (k.sup b h)),?_,?_,fun h=>⟨.inl (.inl (k'.box h).1),(k'.box h).2⟩,k.nodup,?_,k.per⟩
 ·rintro b ((h|rfl)|rfl)
  ·exact k'.lt b h
  ·simp;omega
  ·simp
 ·rintro b ((h|rfl)|rfl) hlt
  ·exact k.own b h hlt
  ·omega
  ·omega
 ·have g1:=k.per.grow _ (Nat.le_refl _) k.fact
  have g2:=k.per.grow (W.heap.size+1) (Nat.le_succ _) g1;exact k.per.step g2 (h1.mono (fun _ _ x=>x.elim))
theorem St.joinF(k:St M X0 w0 bs G X W)(k':St (fun b=> ∃x∈bs,x.1=b) X W bs' G' X' W'):St M X0 w0 bs' G' X' W':=by
 refine k.join k' (fun x hx _ hlt=> ?_);obtain⟨i,hi⟩:=List.getElem?_of_mem hx;obtain⟨y,hy,e⟩:=(k'.box hi).2.1 (Nat.lt_of_lt_of_le hlt k.only.size);obtain⟨j,hj⟩:=List.getElem?_of_mem hy;rw[<-e];exact(k.box hj).2.1 (by rw[e];exact hlt)
theorem Rec.keep{fn:FuncId}{a:Act}{ps:Array Tmp}{assign body:Code}{n:Nat}{st:LoopState}{p:Option Code}(h:Rec fn a ps assign body n st p W)(k:St (fun b=> ∃x∈bs,x.1=b) X0 W bs' G X W')(h1: ∀x∈bs,x.1≠n)(h2: ∀x∈bs,x.1≠n+1):Rec fn a ps assign body n st p W':=by
 obtain⟨e1,e2⟩:=h;have l1:n<W.heap.size:=(Array.getElem?_eq_some_iff.1 e1).1;have l2:n+1<W.heap.size:=(Array.getElem?_eq_some_iff.1 e2).1;exact⟨(k.only.block n l1 (fun⟨x,hx,e⟩=>h1 x hx e)).trans e1,(k.only.block (n+1) l2 (fun⟨x,hx,e⟩=>h2 x hx e)).trans e2⟩
theorem Rec.below{fn:FuncId}{a:Act}{ps:Array Tmp}{assign body:Code}{n:Nat}{st:LoopState}{p:Option Code}(h:Rec fn a ps assign body n st p W)(hb:Below W.heap.size W W'):Rec fn a ps assign body n st p W':=by
 obtain⟨e1,e2⟩:=h;exact⟨(hb.block n (Array.getElem?_eq_some_iff.1 e1).1).trans e1,(hb.block (n+1) (Array.getElem?_eq_some_iff.1 e2).1).trans e2⟩
end
def Betw(M X0:Nat->Prop)(w0:World)(n:Nat)(bs:List (Nat×Array Value×TypeId))(G:(Nat->Prop)->World->Prop)(W:World):Prop:=
 (∀x∈bs,x.1≠n/\x.1≠n+1)/\w0.heap.size<=n/\ ∃X,(X n/\X (n+1))/\St M X0 w0 bs G X W
section
variable{M X0:Nat->Prop}{w0 W W':World}{n:Nat}{bs bs':List (Nat×Array Value×TypeId)}{G G':(Nat->Prop)->World->Prop}
theorem Betw.put(h:Betw M X0 w0 n bs G W)(o:Loop):Betw M X0 w0 n bs G (W.putObj (n+1) (.loop o)):=by
 obtain⟨h1,h2,X,hX,k⟩:=h;exact⟨h1,h2,X,hX,k.putObj hX.2 (by omega) (fun x hx=>(h1 x hx).2) _⟩
theorem Betw.call(h:Betw M X0 w0 n bs G W)(hb:Below W.heap.size W W'):Betw M X0 w0 n bs G W':=by
 obtain⟨h1,h2,X,hX,k⟩:=h;exact⟨h1,h2,X,hX,k.call hb⟩
theorem St.betw{X:Nat->Prop}(k:St M X0 w0 bs G X W)(o1 o2:Obj):Betw M X0 w0 W.heap.size bs G ((W.alloc o1).alloc o2):=
 ⟨fun x hx=>by
  obtain⟨i,hi⟩:=List.getElem?_of_mem hx;have:=(k.blk hi).lt;exact⟨by omega,by omega⟩,k.only.size,_,⟨.inl (.inr rfl),.inr rfl⟩,k.loop2 o1 o2⟩
theorem St.mem_ne{M X0:Nat->Prop}{w0:World}{X:Nat->Prop}{L:Nat}(k:St (fun b=> ∃x∈bs,x.1=b) X0 w0 bs' G X W)(hL:L<w0.heap.size)(h: ∀x∈bs,x.1≠L): ∀x∈bs',x.1≠L:=by
 intro x hx e;obtain⟨i,hi⟩:=List.getElem?_of_mem hx;obtain⟨y,hy,e2⟩:=(k.box hi).2.1 (by rw[e];exact hL);exact h y hy (e2.trans e)
theorem Betw.back(h:Betw M X0 w0 n bs G W){X X':Nat->Prop}(hs:n+1<W.heap.size)(hX:X n/\X (n+1))(k':St (fun b=> ∃x∈bs,x.1=b) X W bs' G' X' W')(hk:St M X0 w0 bs G X W):Betw M X0 w0 n bs' G' W':=by
 obtain⟨h1,h2,_⟩:=h;have a1:=k'.mem_ne (M:=fun b=> ∃x∈bs,x.1=b) (X0:=X) (L:=n) (by omega) (fun x hx=>(h1 x hx).1);have a2:=k'.mem_ne (M:=fun b=> ∃x∈bs,x.1=b) (X0:=X) (L:=n+1) hs (fun x hx=>(h1 x hx).2);exact⟨fun x hx=>⟨a1 x hx,a2 x hx⟩,h2,X',⟨k'.sup _ hX.1,k'.sup _ hX.2⟩,hk.joinF k'⟩
theorem Betw.open(h:Betw M X0 w0 n bs G W): ∃X,(X n/\X (n+1))/\St M X0 w0 bs G X W:=h.2.2
theorem Betw.fin(h:Betw M X0 w0 n bs G W): ∃X,St M X0 w0 bs G X (W.putObj n (.deferred none)):=by
 obtain⟨h1,h2,X,hX,k⟩:=h;exact⟨X,k.putObj hX.1 h2 (fun x hx=>(h1 x hx).1) _⟩
theorem betw_eq{W2:World}{o:Loop}(e:W2=W.putObj (n+1) (.loop o))(h:Betw M X0 w0 n bs G W):Betw M X0 w0 n bs G W2:=e▸h.put o
theorem Betw.turn(h:Betw M X0 w0 n bs G W)(hG: ∀X,G X W->G' X W)(hP:Per G'):Betw M X0 w0 n bs G' W:=by
 obtain⟨h1,h2,X,hX,k⟩:=h;exact⟨h1,h2,X,hX,k.turn (hG X) hP⟩
end
theorem vm{fn:Func}{R:Ending->World->Prop}{tmps:Array Value}{n:Nat}{v:Value}{W:World}(hD:W.heap[n]? =some (.deferred (some [])))(hres:(results fn tmps).run Tryz.prog (W.putObj n (.deferred none))= .ok v (W.putObj n (.deferred none)))(hR:R (.returned v) (W.putObj n (.deferred none))):
  bodyPostM Fence.wide 9 Tryz.prog fn R .ret {tmps:=tmps,defers:=[{target:= .collected n,args:= #[]}]} W:=
 ⟨by simp,.inl ⟨_,_,rfl,run_takeDeferred hD,⟨v,hres,hR⟩⟩⟩
section
open Go.RowKit
attribute [local go_sem] Oper.semAt_some
def DeadR(l:List (Array Value))(q:Int)(w:World)(e:Ending)(w':World):Prop:=
 ∃(x:Int) (b:Bool),e= .returned (.tuple #[.int .i64 x,.bool b])/\(b=true-> ∃r∈l,zX r=x/\ym r=q/\qV r=4)/\Below w.heap.size w w'
def ChildrenR(v:Value)(q:Int)(w:World)(e:Ending)(w':World):Prop:=
 ∃bt bp:Nat,e= .returned (.func (.func 195) #[] #[.pointer (some ⟨bt,0,none⟩),.pointer (some ⟨bp,0,none⟩)])/\w.heap.size<=bt/\w.heap.size<=bp/\bt≠bp/\Blk w' bt #[v] 42/\Blk w' bp #[.int .i64 q] 3/\Below w.heap.size w w'
theorem children_any(A:Option Addr)(n c:Nat)(q:Int)(w:World):Calls Tryz.prog 189 #[.slice A n c,.int .i64 q] w (ChildrenR (.slice A n c) q w):=by
 go_enter Tryz.func189,Tryz.ntmps189;go_wp2_with(first|(refine yf rfl 42 (.tmp 0) rfl _ rfl #[.slice A n c] rfl ?_;intro W1 hk1 hb1 hz1)|(refine yf rfl 3 (.tmp 1) rfl _ rfl #[.int .i64 q] rfl ?_;intro W2 hk2 hb2 hz2))
 go_ret
 exact⟨_,_,rfl,Nat.le_refl _,by omega,by omega,hk1.below hb2,(by rw[hz1] at hk2;exact hk2),hb1.trans (hb2.mono (by omega))⟩
def RoB(b:Nat)(C:Array Value)(T:TypeId)(X:Nat->Prop)(W:World):Prop:=Blk W b C T/\ ¬X b
theorem vE(b:Nat)(C:Array Value)(T:TypeId):Per (RoB b C T):=
 ⟨fun h o=>⟨(o.block b h.1.lt h.2).trans h.1,h.2⟩,fun b' hb h=>⟨h.1,fun hx=>by rcases hx with hx|hx;exact h.2 hx;have:=h.1.lt;omega⟩,fun hY h=>⟨h.1,fun hx=>h.2 (hY _ hx)⟩⟩
def ChG(v:Value)(l:List (Array Value))(q:Int)(bt bp:Nat)(X:Nat->Prop)(W:World):Prop:=(Sl 26 v l X W/\RoB bt #[v] 42 X W)/\RoB bp #[.int .i64 q] 3 X W
theorem children_iter{A:Option Addr}{c bt bp n:Nat}{l:List (Array Value)}{q:Int}{I:Nat->World->Prop}{IS:Code->World->Prop}{a:Act}{ps:Array Tmp}{assign body:Code}(hl: ∀r∈l,Ty yu r)(hle:l.length<=1000000)
  (h1: ∀k W,I k W->W.cell? ⟨bt,0,none⟩=some (.slice A l.length c)/\W.cell? ⟨bp,0,none⟩=some (.int .i64 q)/\Sl 26 (.slice A l.length c) l (fun _=>False) W)
  (h2: ∀k W W',I k W->Below W.heap.size W W'->I k W') (h3: ∀k r W,I k W->l[k]? =some r->ym r≠q->I (k+1) W):
  ∀(fn:FuncId) (W:World),(∀k x W,(I k W/\Rec fn a ps assign body n .ready none W)->(l[k]? =some x/\ym x=q)->YieldAt Fence.wide 7 Tryz.prog (n+1) #[Value.agg x] W fun e W'=> ∃b,e= .returned (.bool b)/\(b=true->I (k+1) W' /\Rec fn a ps assign body n .ready none W')/\(b=false-> ∃c,IS c W' /\Rec fn a ps assign body n .done (some c) W'))->
   (I 0 W/\Rec fn a ps assign body n .ready none W)->CallsIn Fence.wide 8 Tryz.prog 195 (#[.func (.yield (n+1)) #[] #[]]++ #[.pointer (some ⟨bt,0,none⟩),.pointer (some ⟨bp,0,none⟩)]) W fun e W'=>(∃v,e= .returned v)/\((I l.length W' /\Rec fn a ps assign body n .ready none W')\/ ∃c,IS c W' /\Rec fn a ps assign body n .done (some c) W'):=by
 intro fn W hY hI;exact children_in 8 (n+1) bt bp A c l q (fun k W=>I k W/\Rec fn a ps assign body n .ready none W) (fun W=> ∃c,IS c W/\Rec fn a ps assign body n .done (some c) W) hl hle (fun k W h=>h1 k W h.1) (fun k W W' h hb=>⟨h2 k W W' h.1 hb,h.2.below hb⟩) (fun k r W h hr hp=>⟨h3 k r W h.1 hr hp,h.2⟩) (fun k r W h hr hp=>hY k r W h ⟨hr,hp⟩) W hI
theorem qd{M X0 X:Nat->Prop}{w0 W:World}{bs:List (Nat×Array Value×TypeId)}{G:(Nat->Prop)->World->Prop}(k:St M X0 w0 bs G X W)(i:Nat){b off:Nat}{C:Array Value}{t:TypeId}(hi:bs[i]? =some (b,C,t))(T:TypeId)(ht:tyT T=some (false,1)){v:Value}(hv:C.toList[off]? =some v):
  (loadVar T ⟨b,off,none⟩).run Tryz.prog W= .ok v W:=by
 have hc:=((k.rules hi).1 off).trans ((Array.getElem?_toList ..).symm.trans hv);simp[loadVar,(jg ht W).1,hc]
theorem hcall195(args:Array Value)(w:World):(callFunc 195 args).run Tryz.prog w= .ok (.enter 195 args) w:=yk (h:=⟨_,Tryz.func195,by kernel_rfl,by kernel_rfl⟩) args
theorem dead_any(v:Value)(l:List (Array Value))(q:Int)(X0:Nat->Prop)(w:World)(h:Sl 26 v l X0 w)(hl: ∀r∈l,Ty yu r)(hle:l.length<=1000000)(hX: ∀b,X0 b->b<w.heap.size):
  Calls Tryz.prog 175 #[v,.int .i64 q] w (DeadR l q w):=by
 obtain⟨A,c,rfl,_,_⟩:=h.len;have k:Hid (St (fun _=>False) X0 w [] (Sl 26 (.slice A l.length c) l) X0 w):=St.begin hX h (zb _ _ _);have HL:=Lib.hid hl;clear h hl;refine(callsIn_wide (n:=9)).1 ?_;refine callsIn_of_wp_marks Tryz.func175 rfl trivial ?_ rfl;simp only[Tryz.ntmps175,List.size_toArray,List.length_cons,List.length_nil,Nat.reduceAdd,Nat.reduceSub,Array.replicate_succ,Array.replicate_zero,List.push_toArray,List.append_toArray,List.nil_append,List.cons_append];refine wpIn_wide.2 ?_;go_wp2_with((with_reducible refine zf ?_);first|(refine al1 k Tryz.zeroValue3 rfl ?_;clear k;intro b3 X W k)|(refine al1 k Tryz.zeroValue4 rfl ?_;clear k;intro b4 X W k));refine(children_any A l.length c q W).mono ?_;rintro e W1 ⟨bt,bp,rfl,h1,h2,h3,hk1,hk2,hb⟩;replace k:=zj (((k.out.call hb).add (H:=RoB bt #[.slice A l.length c] 42) ⟨hk1,fun hx=>by have:=k.out.lt _ hx;omega⟩ (vE _ _ _)).add (H:=RoB bp #[.int .i64 q] 3) ⟨hk2,fun hx=>by have:=k.out.lt _ hx;omega⟩ (vE _ _ _));replace k:Hid (St _ _ _ [(_,#[.bool false],_),(_,#[.int .i64 0],_)] (ChG (.slice A l.length c) l q bt bp) _ _):=k;clear hk1 hk2 hb;have hbt:=k.out.fact.1.2.1;have hbp:=k.out.fact.2.1;go_wp2_with fail;refine gw 195 #[.pointer (some ⟨bt,0,none⟩),.pointer (some ⟨bp,0,none⟩)] l.length Value.agg (fun k r=>l[k]? =some r/\ym r=q) rfl hcall195
  (fun _ W'=>Betw (fun _=>False) X0 w W1.heap.size [(b4,#[.bool false],4),(b3,#[.int .i64 0],3)] (ChG (.slice A l.length c) l q bt bp) W')
  (fun c' W'=>c'=Code.ret/\ ∃r,r∈l/\ym r=q/\qV r=4/\Betw (fun _=>False) X0 w W1.heap.size [(b4,#[.bool true],4),(b3,#[.int .i64 (zX r)],3)] (ChG (.slice A l.length c) l q bt bp) W') ?hput ?hputS ?h0 ?hiter ?hround ?hdone ?hstop
 case h0=>exact fun o=>k.out.betw _ _
 case hput=>exact fun _ _ o h=>h.put o
 case hputS=>
  rintro c' W o ⟨hc,r,h1,h2,h3,h4⟩;exact⟨hc,r,h1,h2,h3,h4.put o⟩
 case hiter=>
  refine children_iter (A:=A) (c:=c) HL.out hle ?_ ?_ ?_
  ·intro kk W2 hI2
   obtain⟨X,_,k2⟩:=hI2.open;exact⟨k2.fact.1.2.1.rules.1 0,k2.fact.2.1.rules.1 0,(zb _ _ _).sub (fun _ h=>h.elim) k2.fact.1.1⟩
  ·exact fun kk W2 W3 hI2 hb=>hI2.call hb
  ·exact fun _ _ _ h _ _=>h
 case hround=>
  intro fn kk r W hI hR hc;obtain⟨hr,hp⟩:=hc;have hrt:=HL.out r (List.mem_of_getElem? hr);have hrs:r.size=26:=hrt.size;have hro:=hrt.one;have e0:r.toList[0]? =some (.int .i64 (zX r)):=by rw[Array.getElem?_toList];exact xq hrt 0 rfl
  have e2:r.toList[2]? =some (.int .i64 (qV r)):=by rw[Array.getElem?_toList];exact xq hrt 2 rfl
  obtain⟨X,hX,k1⟩:=hI.open;have hsz:W1.heap.size+1<W.heap.size:=(Array.getElem?_eq_some_iff.1 hR.2).1;have hI':=Lib.hid hI;have hR':=Lib.hid hR;have K1:=Lib.hid k1;clear k hI hR;have k:=zj k1.again
  gi_wp2_with (refine qQ rfl (fun _ h=>by cases h) ?_;(first|((with_reducible refine zx ?_);refine soa k rfl rfl rfl .a0 (by assumption) (by rfl) (by assumption) ?_;clear k;intro W k)|((with_reducible refine zf ?_);refine ala k Tryz.zeroValue132 ?_;clear k;intro b132 X W k));refine yp ?_)
  refine⟨hR'.out.keep k.out (fun x hx=>(hI'.out.1 x hx).1) (fun x hx=>(hI'.out.1 x hx).2),?_⟩;intro W2 hW2;have hRb:=(hR'.out.keep k.out (fun x hx=>(hI'.out.1 x hx).1) (fun x hx=>(hI'.out.1 x hx).2)).put (st':= .busy) (p':=none);rw[<-hW2] at hRb;have hB0:=hI'.out.back hsz hX k.out K1.out;have hB:=betw_eq hW2 hB0;clear hB0 hW2;have hRb':=Lib.hid hRb;have hB':=Lib.hid hB;clear hI' hR' k hRb;obtain⟨X2,hX2,k3⟩:=hB.open;have K3:=Lib.hid k3;have k:=zj k3.again;clear hB;have hsz2:W1.heap.size+1<W2.heap.size:=(Array.getElem?_eq_some_iff.1 hRb'.out.2).1;by_cases hst:qV r=4
  ·gi_wp2_with (refine qQ rfl (fun _ h=>by cases h) ?_;(first|((with_reducible refine zz ?_);refine ld1 k rfl rfl .a0 (by assumption) ?_)|((with_reducible refine zx ?_);refine so1 k rfl rfl rfl (by rfl) (by repeat constructor) (by rfl) rfl ?_;clear k;intro W k));refine yp ?_)
   refine⟨hRb'.out.keep k.out (fun x hx=>(hB'.out.1 x hx).1) (fun x hx=>(hB'.out.1 x hx).2),r,List.mem_of_getElem? hr,hp,hst,?_⟩;exact hB'.out.back hsz2 hX2 (k.out.drop (n:=1)) K3.out
  ·have d1:(qV r==4)=false:=by rw[beq_eq_false_iff_ne];exact hst
   gi_wp2_with (refine qQ rfl (fun _ h=>by cases h) ?_;((with_reducible refine zz ?_);refine ld1 k rfl rfl .a0 (by assumption) ?_);refine yp ?_)
   refine⟨hRb'.out.keep k.out (fun x hx=>(hB'.out.1 x hx).1) (fun x hx=>(hB'.out.1 x hx).2),?_⟩;exact hB'.out.back hsz2 hX2 (k.out.drop (n:=1)) K3.out
 case hdone=>
  intro W hI hD;obtain⟨X,hX,k1⟩:=hI.open;have hsz:W1.heap.size<W.heap.size:=(Array.getElem?_eq_some_iff.1 hD).1;have hsz2:W1.heap.size+1<W.heap.size:=by have:=k1.lt _ hX.2;omega
  have hI':=Lib.hid hI;have hD':=Lib.hid hD;have K1:=Lib.hid k1;have k:=zj k1.again;clear hI hD;go_wp2_with((with_reducible refine zx ?_);refine so1 k rfl rfl rfl (by rfl) (by repeat constructor) (by rfl) rfl ?_;clear k;intro W k);have hB:=hI'.out.back hsz2 hX k.out K1.out;have hD2:=(k.out.only.block _ hsz (fun⟨x,hx,e⟩=>(hI'.out.1 x hx).1 e)).trans hD'.out;obtain⟨X2,k2⟩:=hB.fin;exact vm hD2 (results_cc rfl _ rfl rfl (qd k2 1 (off:=0) rfl 3 rfl rfl) (qd k2 0 (off:=0) rfl 4 rfl rfl)) ⟨_,false,rfl,(fun h=>by cases h),k2.end⟩
 case hstop=>
  rintro c' W ⟨rfl,r,h1,h2,h3,h4⟩ hD;obtain⟨X,k1⟩:=h4.fin;go_wp2_with fail;exact vm hD (results_cc rfl _ rfl rfl (qd k1 1 (off:=0) rfl 3 rfl rfl) (qd k1 0 (off:=0) rfl 4 rfl rfl)) ⟨zX r,true,rfl,fun _=>⟨r,h1,rfl,h2,h3⟩,k1.end⟩
end
section
open Go.RowKit
attribute [local go_sem] Oper.semAt_some
theorem own_only{base e size n:Nat}{v:Value}{xs:List Value}{M:Nat->Prop}{W W':World}(h:W.ownsRow base e size v n xs)(o:Only M W W')(hM: ∀g,v.ownBlock=some g-> ¬M g):W'.ownsRow base e size v n xs:=by
 refine⟨h.1,?_⟩;rcases h.2 with h0|⟨g,cap,cur,rfl,hbg,hk,rest⟩
 ·exact .inl h0
 ·exact .inr ⟨g,cap,cur,rfl,hbg,(o.block g (Array.getElem?_eq_some_iff.1 hk).1 (hM g rfl)).trans hk,rest⟩
theorem jG{base e size n:Nat}{v:Value}{xs:List Value}{W:World}(h:W.ownsRow base e size v n xs){g:Nat}(hg:v.ownBlock=some g):base<=g/\g<W.heap.size:=by
 rcases h.2 with⟨rfl,_⟩|⟨g',cap,cur,rfl,hbg,hk,rest⟩
 ·cases hg
 ·injection hg with hg
  subst hg;exact⟨hbg,(Array.getElem?_eq_some_iff.1 hk).1⟩
section
variable{M X0 X:Nat->Prop}{w0 W W':World}{bs:List (Nat×Array Value×TypeId)}{G:(Nat->Prop)->World->Prop}
theorem St.scribble(k:St M X0 w0 bs G X W){N:Nat->Prop}(o:Only N W W')(hX: ∀b,N b->b<W.heap.size->X b)(hM: ∀b,N b->b<w0.heap.size->M b)(hne: ∀x∈bs,¬N x.1):St M X0 w0 bs G X W':=
 ⟨k.only.trans o (fun x hx h=>hM x h hx),k.sup,fun b hb=>Nat.lt_of_lt_of_le (k.lt b hb) o.size,k.own,fun{i b C T} h=>⟨(k.box h).1,(k.box h).2.1,(o.block b (k.blk h).lt (hne _ (List.mem_of_getElem? h))).trans (k.blk h)⟩,k.nodup,
  k.per.step k.fact (o.mono (fun x hx h=>hX x h hx)),k.per⟩
theorem St.fence(k:St M X0 w0 bs G X W){g:Nat}(hg:w0.heap.size<=g)(hlt:g<W.heap.size)(hG:G (fun b=>X b\/b=g) W):St M X0 w0 bs G (fun b=>X b\/b=g) W:=
 ⟨k.only,fun b h=> .inl (k.sup b h),fun b h=>h.elim (k.lt b) (fun e=>e▸hlt),fun b h hl=>h.elim (fun h=>k.own b h hl) (fun e=>by omega),fun h=>⟨.inl (k.box h).1,(k.box h).2⟩,k.nodup,hG,k.per⟩
end
theorem St.erase{M X0 X:Nat->Prop}{w0 W:World}{bs:List (Nat×Array Value×TypeId)}{G:(Nat->Prop)->World->Prop}(k:St M X0 w0 bs G X W)(i:Nat):St M X0 w0 (bs.eraseIdx i) G X W:=by
 have ex: ∀{j:Nat} {x:Nat×Array Value×TypeId},(bs.eraseIdx i)[j]? =some x-> ∃j',bs[j']? =some x/\(j'=if j<i then j else j+1):=by
  intro j x h;rw[List.getElem?_eraseIdx] at h;split at h
  ·rename_i hlt
   exact⟨j,h,by rw[if_pos hlt]⟩
  ·rename_i hlt
   exact⟨j+1,h,by rw[if_neg hlt]⟩
 refine⟨k.only,k.sup,k.lt,k.own,fun h=> ?_,fun{p q} x y hp hq hne=> ?_,k.fact,k.per⟩
 ·obtain⟨j',hj,_⟩:=ex h
  exact k.box hj
 ·obtain⟨p',hp',e1⟩:=ex hp
  obtain⟨q',hq',e2⟩:=ex hq;refine k.nodup hp' hq' ?_;rw[e1,e2];split<;>split<;>omega
theorem St.erase_ne{M X0 X:Nat->Prop}{w0 W:World}{bs:List (Nat×Array Value×TypeId)}{G:(Nat->Prop)->World->Prop}(k:St M X0 w0 bs G X W){i g:Nat}{C:Array Value}{T:TypeId}(hi:bs[i]? =some (g,C,T)): ∀x∈bs.eraseIdx i,x.1≠g:=by
 intro x hx;obtain⟨j,hj⟩:=List.getElem?_of_mem hx;rw[List.getElem?_eraseIdx] at hj;split at hj
 ·exact k.nodup hj hi (by omega)
 ·exact k.nodup hj hi (by omega)
def KidsR(w:World)(e:Ending)(w':World):Prop:= ∃A n c,e= .returned (.slice A n c)/\Below w.heap.size w w'
theorem St.app{M X0 X:Nat->Prop}{w0 W W':World}{bs:List (Nat×Array Value×TypeId)}{G:(Nat->Prop)->World->Prop}(k:St M X0 w0 bs G X W){base m:Nat}{v':Value}{ob:Option Nat}{l':List (Array Value)}(hown:W'.ownsRow base 3 1 v' m (yy l'))(hlen:l'.length=m)(hs: ∀r∈l',r.size=1)(hm:0<m)(hgr:W.grownBy W' ob)(hob:v'.ownBlock=ob\/v'.ownBlock=some W.heap.size)
  (hobX: ∀g,ob=some g->X g/\(g<w0.heap.size->M g)/\ ∀x∈bs,x.1≠g): ∃g cap cur X',v'= .slice (some ⟨g,0,none⟩) m cap/\Rw 1 m cap cur l' /\St M X0 w0 ((g,cur,3)::bs) G X' W' /\ ∀b,X b->X' b:=by
 obtain⟨g,cap,cur,rfl,hbg,hk,hnc,hcm,hcs,ht⟩:=xI hown hm;obtain⟨g1,g2,g3,g4,g5⟩:=hgr;have ho:Only (fun b=>ob=some b) W W':=⟨g1,g2,g3,g4,fun b hb hne=>g5 b hb (fun e=>hne e.symm)⟩;have hw0:=k.only.size;have hrw:Rw 1 m cap cur l':=⟨hnc,hcm,hcs,ht,hlen,hs⟩;have key: ∀X',St M X0 w0 bs G X' W'->X' g->(g<w0.heap.size->M g)->(∀x∈bs,x.1≠g)->St M X0 w0 ((g,cur,3)::bs) G X' W':=by
  intro X' k' hXg hM hne;refine⟨k'.only,k'.sup,k'.lt,k'.own,?_,?_,k'.fact,k'.per⟩
  ·intro i b C T h
   cases i with
   |zero=>
    simp only[List.getElem?_cons_zero] at h;injection h with h;injection h with h1 h2;injection h2 with h2 h3;subst h1 h2 h3;exact⟨hXg,hM,hk⟩
   |succ i=>
    simp only[List.getElem?_cons_succ] at h;exact k'.box h
  ·intro i j x y h1 h2 hn
   cases i with
   |zero=>
    cases j with
    |zero=>exact absurd rfl hn
    |succ j=>
     simp only[List.getElem?_cons_zero,List.getElem?_cons_succ] at h1 h2;injection h1 with h1;subst h1;exact fun e=>hne y (List.mem_of_getElem? h2) e.symm
   |succ i=>
    cases j with
    |zero=>
     simp only[List.getElem?_cons_zero,List.getElem?_cons_succ] at h1 h2;injection h2 with h2;subst h2;exact hne x (List.mem_of_getElem? h1)
    |succ j=>
     simp only[List.getElem?_cons_succ] at h1 h2;exact k'.nodup h1 h2 (by omega)
 have hob': ∀x∈bs,¬(ob=some x.1):=fun x hx e=>(hobX _ e).2.2 x hx rfl;rcases hob with e|e
 ·have e':ob=some g:=e.symm
  obtain⟨q1,q2,q3⟩:=hobX g e';exact⟨g,cap,cur,X,rfl,hrw,key X (k.scribble ho (fun b hb _=>(hobX b hb).1) (fun b hb=>(hobX b hb).2.1) hob') q1 q2 q3,fun _ h=>h⟩
 ·have e':g=W.heap.size:=Option.some.inj e
  subst e';refine⟨W.heap.size,cap,cur,fun b=>X b\/b=W.heap.size,rfl,hrw,?_,fun _ h=> .inl h⟩;have k1:=k.scribble ho (fun b hb _=>(hobX b hb).1) (fun b hb=>(hobX b hb).2.1) hob';refine key _ (k1.fence hw0 hk.lt ?_) (.inr rfl) (fun h=>by omega) (fun x hx e=> ?_)
  ·exact k.per.step (k.per.grow _ (Nat.le_refl _) k.fact) (ho.mono (fun b _ hb=> .inl (hobX b hb).1))
  ·obtain⟨i,hi⟩:=List.getElem?_of_mem hx
   have:=(k.blk hi).lt;omega
theorem own_of_rw{base g cap m:Nat}{cur:Array Value}{l:List (Array Value)}{W:World}(h:Rw 1 m cap cur l)(hk:Blk W g cur 3)(hb:base<=g):W.ownsRow base 3 1 (.slice (some ⟨g,0,none⟩) m cap) l.length (yy l):=by
 have e:=h.len;subst e;exact⟨xz h.sz,.inr ⟨g,cap,cur,rfl,hb,hk,h.nc,h.cm,h.cs,h.take⟩⟩
def Kid(X0:Nat->Prop)(w:World)(n b:Nat)(G:(Nat->Prop)->World->Prop)(k:Nat)(W:World):Prop:=
 Betw (fun _=>False) X0 w n [(b,#[.slice none 0 0],43)] G W\/ ∃(g cap:Nat) (cur:Array Value) (lo:List (Array Value)),0<lo.length/\lo.length<=k/\Rw 1 lo.length cap cur lo/\w.heap.size<=g/\Betw (fun _=>False) X0 w n [(g,cur,3),(b,#[.slice (some ⟨g,0,none⟩) lo.length cap],43)] G W
theorem Kid.put{X0:Nat->Prop}{w W:World}{n b k:Nat}{G:(Nat->Prop)->World->Prop}(h:Kid X0 w n b G k W)(o:Loop):Kid X0 w n b G k (W.putObj (n+1) (.loop o)):=by
 rcases h with h|⟨g,cap,cur,lo,h0,h1,h2,h3,h4⟩
 ·exact .inl (h.put o)
 ·exact .inr ⟨g,cap,cur,lo,h0,h1,h2,h3,h4.put o⟩
theorem Kid.call{X0:Nat->Prop}{w W W':World}{n b k:Nat}{G:(Nat->Prop)->World->Prop}(h:Kid X0 w n b G k W)(hb:Below W.heap.size W W'):Kid X0 w n b G k W':=by
 rcases h with h|⟨g,cap,cur,lo,h0,h1,h2,h3,h4⟩
 ·exact .inl (h.call hb)
 ·exact .inr ⟨g,cap,cur,lo,h0,h1,h2,h3,h4.call hb⟩
theorem Kid.next{X0:Nat->Prop}{w W:World}{n b k:Nat}{G:(Nat->Prop)->World->Prop}(h:Kid X0 w n b G k W):Kid X0 w n b G (k+1) W:=by
 rcases h with h|⟨g,cap,cur,lo,h0,h1,h2,h3,h4⟩
 ·exact .inl h
 ·exact .inr ⟨g,cap,cur,lo,h0,by omega,h2,h3,h4⟩
theorem Kid.st{X0:Nat->Prop}{w W:World}{n b k:Nat}{G:(Nat->Prop)->World->Prop}(h:Kid X0 w n b G k W): ∃bs X,St (fun _=>False) X0 w bs G X W:=by
 rcases h with⟨_,_,X,_,k⟩|⟨g,cap,cur,lo,h0,h1,h2,h3,_,_,X,_,k⟩
 ·exact⟨_,X,k⟩
 ·exact⟨_,X,k⟩
theorem kids_any(v:Value)(l:List (Array Value))(q:Int)(X0:Nat->Prop)(w:World)(h:Sl 26 v l X0 w)(hl: ∀r∈l,Ty yu r)(hle:l.length<=1000000)(hX: ∀b,X0 b->b<w.heap.size):
  Calls Tryz.prog 176 #[v,.int .i64 q] w (KidsR w):=by
 obtain⟨A,c,rfl,_,_⟩:=h.len;have k:Hid (St (fun _=>False) X0 w [] (Sl 26 (.slice A l.length c) l) X0 w):=St.begin hX h (zb _ _ _);have HL:=Lib.hid hl;clear h hl;refine(callsIn_wide (n:=9)).1 ?_;refine callsIn_of_wp_marks Tryz.func176 rfl trivial ?_ rfl;simp only[Tryz.ntmps176,List.size_toArray,List.length_cons,List.length_nil,Nat.reduceAdd,Nat.reduceSub,Array.replicate_succ,Array.replicate_zero,List.push_toArray,List.append_toArray,List.nil_append,List.cons_append];refine wpIn_wide.2 ?_;go_wp2_with((with_reducible refine zf ?_);refine al1 k Tryz.zeroValue43 rfl ?_;clear k;intro b43 X W k);refine(children_any A l.length c q W).mono ?_;rintro e W1 ⟨bt,bp,rfl,h1,h2,h3,hk1,hk2,hb⟩;replace k:=zj (((k.out.call hb).add (H:=RoB bt #[.slice A l.length c] 42) ⟨hk1,fun hx=>by have:=k.out.lt _ hx;omega⟩ (vE _ _ _)).add (H:=RoB bp #[.int .i64 q] 3) ⟨hk2,fun hx=>by have:=k.out.lt _ hx;omega⟩ (vE _ _ _));replace k:Hid (St _ _ _ [(_,#[.slice none 0 0],_)] (ChG (.slice A l.length c) l q bt bp) _ _):=k;clear hk1 hk2 hb;have hbt:=k.out.fact.1.2.1;have hbp:=k.out.fact.2.1;go_wp2_with fail;refine gw 195 #[.pointer (some ⟨bt,0,none⟩),.pointer (some ⟨bp,0,none⟩)] l.length Value.agg (fun k r=>l[k]? =some r/\ym r=q) rfl hcall195
  (fun k W'=>k<=l.length/\Kid X0 w W1.heap.size b43 (ChG (.slice A l.length c) l q bt bp) k W')
  (fun c' W'=>False) ?hput ?hputS ?h0 ?hiter ?hround ?hdone ?hstop
 case h0=>exact fun o=>⟨Nat.zero_le _,.inl (k.out.betw _ _)⟩
 case hput=>exact fun _ _ o h=>⟨h.1,h.2.put o⟩
 case hputS=>exact fun _ _ _ h=>h
 case hiter=>
  refine children_iter (A:=A) (c:=c) HL.out hle ?_ ?_ ?_
  ·rintro kk W2 ⟨_,hI2⟩
   obtain⟨bs,X,k2⟩:=hI2.st;exact⟨k2.fact.1.2.1.rules.1 0,k2.fact.2.1.rules.1 0,(zb _ _ _).sub (fun _ h=>h.elim) k2.fact.1.1⟩
  ·exact fun kk W2 W3 hI2 hb=>⟨hI2.1,hI2.2.call hb⟩
  ·intro kk r W2 h hr _
   have:=(List.getElem?_eq_some_iff.1 hr).1;exact⟨by omega,h.2.next⟩
 case hround=>
  intro fn kk r W hI hR hc;obtain⟨hr,hp⟩:=hc;have hkl:=(List.getElem?_eq_some_iff.1 hr).1;have hrt:=HL.out r (List.mem_of_getElem? hr);have hrs:r.size=26:=hrt.size;have hro:=hrt.one;have e0:r.toList[0]? =some (.int .i64 (zX r)):=by rw[Array.getElem?_toList];exact xq hrt 0 rfl
  have hR':=Lib.hid hR;obtain⟨hkk,hI⟩:=hI;have hsz:W1.heap.size+1<W.heap.size:=(Array.getElem?_eq_some_iff.1 hR.2).1;clear k hR;rcases hI with hI|⟨g,cap,cur,lo,hl0,hlk,hRw,hwg,hI⟩
  ·obtain⟨X,hX,k1⟩:=hI.open
   have hI':=Lib.hid hI;have K1:=Lib.hid k1;have k:=zj k1.again;clear hI
   gi_wp2_with (refine qQ rfl (fun _ h=>by cases h) ?_;(first|((with_reducible refine zx ?_);refine soa k rfl rfl rfl .a0 (by assumption) (by rfl) (by assumption) ?_;clear k;intro W k)|((with_reducible refine zf ?_);refine ala k Tryz.zeroValue132 ?_;clear k;intro b132 X W k));refine yp ?_)
   refine⟨hR'.out.keep k.out (fun x hx=>(hI'.out.1 x hx).1) (fun x hx=>(hI'.out.1 x hx).2),?_⟩;intro W2 hW2;have hRb:=(hR'.out.keep k.out (fun x hx=>(hI'.out.1 x hx).1) (fun x hx=>(hI'.out.1 x hx).2)).put (st':= .busy) (p':=none);rw[<-hW2] at hRb;have hB0:=hI'.out.back hsz hX k.out K1.out;have hB:=betw_eq hW2 hB0;clear hB0 hW2;have hRb':=Lib.hid hRb;have hB':=Lib.hid hB;clear hI' hR' k hRb;obtain⟨X2,hX2,k3⟩:=hB.open;have K3:=Lib.hid k3;have k:=zj k3.again;clear hB;have hsz2:W1.heap.size+1<W2.heap.size:=(Array.getElem?_eq_some_iff.1 hRb'.out.2).1;have hw2:=k3.only.size
   gi_wp2_with (first|(refine qQ rfl (fun _ h=>by cases h) ?_;((with_reducible refine qY ?_);refine qp k elInt rfl rfl rfl rfl rfl (by decide) (by decide) ?_;clear k;intro b X W k);refine yp ?_)|(refine qQ rfl (fun _ h=>by cases h) ?_;((with_reducible refine jZ ?_);refine Hid.out ?_))|(refine qQ rfl (fun _ h=>by cases h) ?_;((with_reducible refine zz ?_);refine ld1 k rfl rfl (by repeat constructor) (by first|rfl|assumption) ?_);refine yp ?_))
   refine zj ?_;have hkr:=k.out.blk (i:=0) rfl;have hwW:=k.out.only.size;have hownc:W.ownsRow w.heap.size 3 1 (.slice none 0 0) ([]:List (Array Value)).length (yy []):=⟨rfl,.inl ⟨rfl,rfl⟩⟩;refine yO elInt (by decide) rfl (.tmp 11) (.tmp 14) rfl w.heap.size _ [] rfl hownc (fun _=>False) _ [#[.int .i64 (zX r)]] rfl (qU hkr rfl (Nat.le_refl 1) (by unfold maxLen;omega)) (by intro r hr;rw[List.mem_singleton.1 hr];exact zm rfl) (by first|(simp;done)|(simp;omega)) (by omega) (by omega) ?_;intro v' W5 hown5 hb5 hsz5 hob5 hgr5;obtain⟨g',cap',cur',X5,rfl,hRw5,k5,hX5⟩:=(k.out).app hown5 rfl (xl (fun _ h=>by cases h) rfl) (by simp) hgr5 hob5 (fun _ h=>by cases h);have hwg':w.heap.size<=g':=(jG hown5 rfl).1;clear k hkr hown5 hb5 hsz5 hob5 hgr5 hownc;have k:=zj k5;refine yp ?_
   gi_wp2_with (refine qQ rfl (fun _ h=>by cases h) ?_;((with_reducible refine zx ?_);refine so1 k rfl rfl rfl (by rfl) .a3 (by rfl) rfl ?_;clear k;intro W k);refine yp ?_)
   refine⟨hRb'.out.keep k.out (fun x hx=>(hB'.out.1 x hx).1) (fun x hx=>(hB'.out.1 x hx).2),by omega,.inr ⟨g',cap',cur',_,by simp,by simp,hRw5,hwg',?_⟩⟩;exact hB'.out.back hsz2 hX2 ((k.out.erase 1).erase 1) K3.out
  ·obtain⟨X,hX,k1⟩:=hI.open
   have hI':=Lib.hid hI;have K1:=Lib.hid k1;have k:=zj k1.again;clear hI
   gi_wp2_with (refine qQ rfl (fun _ h=>by cases h) ?_;(first|((with_reducible refine zx ?_);refine soa k rfl rfl rfl .a0 (by assumption) (by rfl) (by assumption) ?_;clear k;intro W k)|((with_reducible refine zf ?_);refine ala k Tryz.zeroValue132 ?_;clear k;intro b132 X W k));refine yp ?_)
   refine⟨hR'.out.keep k.out (fun x hx=>(hI'.out.1 x hx).1) (fun x hx=>(hI'.out.1 x hx).2),?_⟩;intro W2 hW2;have hRb:=(hR'.out.keep k.out (fun x hx=>(hI'.out.1 x hx).1) (fun x hx=>(hI'.out.1 x hx).2)).put (st':= .busy) (p':=none);rw[<-hW2] at hRb;have hB0:=hI'.out.back hsz hX k.out K1.out;have hB:=betw_eq hW2 hB0;clear hB0 hW2;have hRb':=Lib.hid hRb;have hB':=Lib.hid hB;clear hI' hR' k hRb;obtain⟨X2,hX2,k3⟩:=hB.open;have K3:=Lib.hid k3;have k:=zj k3.again;clear hB;have hsz2:W1.heap.size+1<W2.heap.size:=(Array.getElem?_eq_some_iff.1 hRb'.out.2).1;have hw2:=k3.only.size
   gi_wp2_with (first|(refine qQ rfl (fun _ h=>by cases h) ?_;((with_reducible refine qY ?_);refine qp k elInt rfl rfl rfl rfl rfl (by decide) (by decide) ?_;clear k;intro b X W k);refine yp ?_)|(refine qQ rfl (fun _ h=>by cases h) ?_;((with_reducible refine jZ ?_);refine Hid.out ?_))|(refine qQ rfl (fun _ h=>by cases h) ?_;((with_reducible refine zz ?_);refine ld1 k rfl rfl (by repeat constructor) (by first|rfl|assumption) ?_);refine yp ?_))
   refine zj ?_;have hkr:=k.out.blk (i:=0) rfl;have hwW:=k.out.only.size;have hownc:=own_of_rw hRw (k.out.blk (i:=2) rfl) hwg;refine yO elInt (by decide) rfl (.tmp 11) (.tmp 14) rfl w.heap.size _ lo rfl hownc (fun _=>False) _ [#[.int .i64 (zX r)]] rfl (qU hkr rfl (Nat.le_refl 1) (by unfold maxLen;omega)) (by intro r hr;rw[List.mem_singleton.1 hr];exact zm rfl) (by first|(simp;done)|(simp;omega)) (by omega) (by omega) ?_;intro v' W5 hown5 hb5 hsz5 hob5 hgr5;obtain⟨g',cap',cur',X5,rfl,hRw5,k5,hX5⟩:=(k.out.erase 2).app hown5 rfl (xl hRw.sz rfl) (by simp) hgr5 hob5 (fun g1 e=>by obtain rfl:g=g1:=Option.some.inj e;exact⟨(k.out.box (i:=2) rfl).1,(k.out.box (i:=2) rfl).2.1,k.out.erase_ne (i:=2) rfl⟩);have hwg':w.heap.size<=g':=(jG hown5 rfl).1;clear k hkr hown5 hb5 hsz5 hob5 hgr5 hownc;have k:=zj k5;refine yp ?_
   gi_wp2_with (refine qQ rfl (fun _ h=>by cases h) ?_;((with_reducible refine zx ?_);refine so1 k rfl rfl rfl (by rfl) .a3 (by rfl) rfl ?_;clear k;intro W k);refine yp ?_)
   refine⟨hRb'.out.keep k.out (fun x hx=>(hB'.out.1 x hx).1) (fun x hx=>(hB'.out.1 x hx).2),by omega,.inr ⟨g',cap',cur',_,by simp,by simp;omega,hRw5,hwg',?_⟩⟩;exact hB'.out.back hsz2 hX2 ((k.out.erase 1).erase 1) K3.out
 case hdone=>
  rintro W ⟨_,hI⟩ hD;have hsz:W1.heap.size<W.heap.size:=(Array.getElem?_eq_some_iff.1 hD).1;clear k;rcases hI with hI|⟨g,cap,cur,lo,hl0,hlk,hRw,hwg,hI⟩
  all_goals
   obtain⟨X,hX,k1⟩:=hI.open;have k:=zj k1;obtain⟨X2,k2⟩:=hI.fin;go_wp2_with((with_reducible refine zz ?_);refine ld1 k rfl rfl (by repeat constructor) (by rfl) ?_);exact vm hD (zh rfl rfl) ⟨_,_,_,rfl,k2.end⟩
 case hstop=>exact fun _ _ h=>h.elim
end
theorem twait_any(bk n s m:Nat)(x:Kn)(X0:Nat->Prop)(w:World)(h:KPre bk n s m x X0 w)(r:Array Value)(hr:r∈x.P)(N A B C:Int)(hc:qk N A B C):
  Calls Tryz.prog 142 #[.pointer (some ⟨bk,0,none⟩),.agg r,.agg #[.int .u32 N,.int .u32 A,.int .u32 B,.int .u32 C]] w (qX bk (n+1) s (m+1) x X0 w (Zw x (zX r))):=by
 have k:=zj h.begin;have OK:=Lib.hid h.ok;have HB:=Lib.hid h.blk;have hn:=h.hn;have hm:=h.hm;have HR:Hid (Ty yu r):=h.ok.P.ty r hr;have HM:=Lib.hid hr;have HI:=Lib.hid (xk hr);have HPar:=Lib.hid (h.ok.P.par r hr);have hs:=h.hs;have hrs:r.size=26:=HR.out.size;have hro:=HR.out.one;clear hr h;have e0:r.toList[0]? =some (.int .i64 (zX r)):=by rw[Array.getElem?_toList];exact xq HR.out 0 rfl
 go_enter Tryz.func142,Tryz.ntmps142
 go_upto_region 1 with((with_reducible refine zI ?_);refine bxa k rfl ?_;clear k;intro b X W k)
 have HPer:=Lib.hid k.out.per;refine zt k 13 13 (by kernel_rfl) rfl ?_;clear k;intro W k;refine zq [(0,some 13,[]),(1,some 14,[]),(2,some 15,[]),(3,some 16,[]),(4,some 17,[]),(5,some 18,[]),(6,some 19,[])] [?v13_0,?v13_1,?v13_2,?v13_3,?v13_4,?v13_5,?v13_6] 6 (by kernel_rfl) ⟨_,k.out⟩ ?l13 ?h13;case l13=>
  intro w' hSw;iterate 7
   refine lkw rfl rfl (by rfl) ?_ ?_
   ·first|((with_reducible refine yw ?_);first|exact hSw.l1 rfl rfl (by repeat constructor) (by first|rfl|assumption))|(go_simp<;>with_reducible rfl)
   try simp only[Act.put,tS,t0,t1]
  trivial
 simp only[zw,zk,Act.put,tS,t0,t1];refine w1 7 5 (by kernel_rfl) rfl ?_;go_wp2_with fail;refine(dead_any _ x.P (zX r) _ _ k.out.fact.P OK.out.P.ty (by have:=OK.out.P.len;omega) k.out.lt).mono ?_;rintro e W1 ⟨y,b0,rfl,hdead,hb⟩;replace k:=zj (k.out.call hb);clear hb;go_wp2_with fail;refine zd (yz ⟨_,k.out⟩) ?_;refine zq [(8,some 12,[]),(9,some 21,[]),(10,some 22,[]),(11,some 8,[]),(12,some 9,[])] [?v14_8,?v14_9,?v14_10,?v14_11,?v14_12] 0 (by kernel_rfl) ⟨_,k.out⟩ ?l14 ?h14;case l14=>
  intro w' hSw;iterate 5
   refine lkw rfl rfl (by rfl) ?_ ?_
   ·go_simp<;>with_reducible rfl
   try simp only[Act.put,tS,t0,t1]
  trivial
 simp only[zw,zk,Act.put,tS,t0,t1];refine zv (by kernel_rfl) ?_ _;clear HPer;cases b0 with
 |true=>
  obtain⟨rd,hd1,hd2,hd3,hd4⟩:=hdead rfl;clear hdead;go_wp2_with((with_reducible refine zz ?_);refine ld1 k rfl rfl .a2 (by rfl) ?_);refine(jk _ x.P y _ _ k.out.fact.P OK.out.P.ty).mono ?_;rintro e W1 ⟨r2,b2,rfl,hr2,_,_,hb⟩;have hrs2:r2.size=26:=hr2.size;have hro2:=hr2.one;obtain⟨code,hcd⟩: ∃code,code=zQ r2 13:=⟨_,rfl⟩;have e13:r2.toList[13]? =some (.int .i64 code):=by rw[Array.getElem?_toList,hcd];exact xq hr2 13 rfl
  clear hcd;replace k:=zj (k.out.call hb);clear hb;go_wp2_with(first|((with_reducible refine zz ?_);refine ld1 k rfl rfl .a3 (by rfl) ?_)|((with_reducible refine zx ?_);refine soa k rfl rfl rfl .a0 (by assumption) (by rfl) (by assumption) ?_;clear k;intro W k)|((with_reducible refine zf ?_);refine ala k Tryz.zeroValue132 ?_;clear k;intro b132 X W k));refine(gQ _ x.P y _ _ k.out.fact.P OK.out.P.ty (by have:=OK.out.P.len;omega)).mono ?_;rintro e W1 ⟨v1,rfl,hown,hb⟩;have hv1:=xu hown;have hPO:=OK.out.P.filter (fun q=> !xQ y q);have hf:=zV hown (fun q hq=>(hPO.ty q hq).size) k.out.lt;replace k:=zj ((k.out.call hb).add hf (zb _ _ _));clear hown hb hf
  go_upto_region 5 with(first|((with_reducible refine zx ?_);refine yE k (E:=KC {x with vP:=v1,P:=x.P.filter fun q=> !xQ y q}) (G':=KSl {x with vP:=v1,P:=x.P.filter fun q=> !xQ y q}) rfl rfl rfl hv1 .a3 (by rfl) (by rfl) (zO _) (fun X W h=>{h.1 with P:=h.2}) ?_;clear k;intro W k)|fail)
  go_wp2_with((with_reducible refine zz ?_);refine ld1 k rfl rfl .a0 (by assumption) ?_);have hLv:=liv_filter OK.out.P (y:=y) ⟨rd,hd1,hd2,hd4⟩;have hpar:=OK.out.P.par rd hd1;exact bodyPost_ret (xJ rfl rfl rfl) rfl (k.out.kpost (x':={x with vP:=v1,P:=x.P.filter fun q=> !xQ y q}) 3 rfl HB.out k.out.fact {OK.out.mono (Nat.le_succ n) (Nat.le_refl _) (Nat.le_succ m) with P:=hPO.mono (Nat.le_succ n)} ⟨rfl,rfl,rfl,rfl⟩ ⟨_,0,rfl,by omega,by omega,hLv,gz HI.out (by omega),rfl,rfl⟩)
 |false=>
  clear hdead
  go_upto_region 6 with fail
  have HPer:=Lib.hid k.out.per;refine zt k 11 11 (by kernel_rfl) rfl ?_;clear k;intro W k;refine zq [(0,some 53,[]),(1,some 54,[]),(2,some 55,[]),(3,some 56,[]),(4,some 57,[]),(5,some 58,[]),(6,some 59,[])] [?v15_0,?v15_1,?v15_2,?v15_3,?v15_4,?v15_5,?v15_6] 4 (by kernel_rfl) ⟨_,k.out⟩ ?l15 ?h15;case l15=>
   intro w' hSw;iterate 7
    refine lkw rfl rfl (by rfl) ?_ ?_
    ·first|((with_reducible refine yw ?_);first|exact hSw.l1 rfl rfl (by repeat constructor) (by first|rfl|assumption))|(go_simp<;>with_reducible rfl)
    try simp only[Act.put,tS,t0,t1]
   trivial
  simp only[zw,zk,Act.put,tS,t0,t1];refine w1 7 3 (by kernel_rfl) rfl ?_;go_wp2_with fail;refine(kids_any _ x.P (zX r) _ _ k.out.fact.P OK.out.P.ty (by have:=OK.out.P.len;omega) k.out.lt).mono ?_;rintro e W1 ⟨A6,n6,c6,rfl,hb⟩;replace k:=zj (k.out.call hb);clear hb;go_wp2_with fail;refine zd (yz ⟨_,k.out⟩) ?_;refine zq [(8,some 61,[]),(9,some 62,[]),(10,some 52,[])] [?v16_8,?v16_9,?v16_10] 0 (by kernel_rfl) ⟨_,k.out⟩ ?l16 ?h16;case l16=>
   intro w' hSw;iterate 3
    refine lkw rfl rfl (by rfl) ?_ ?_
    ·go_simp<;>with_reducible rfl
    try simp only[Act.put,tS,t0,t1]
   trivial
  simp only[zw,zk,Act.put,tS,t0,t1];refine zv (by kernel_rfl) ?_ _;clear HPer;by_cases hn0:n6=0
  ·subst hn0
   go_wp2_with fail
   go_ret2
   exact xv k.out 2 rfl HB.out k.out.fact OK.out HI.out (by omega) (by omega)
  ·have dn:((n6:Int)==0)=false:=by rw[beq_eq_false_iff_ne];omega
   have hn1: ¬((n6:Int)=0):=by omega
   go_wp2_with fail
   go_ret2
   exact xv k.out 2 rfl HB.out k.out.fact OK.out HI.out (by omega) (by omega)
def DoesF(F:FuncId):Prop:=Zp Tryz.prog F/\ ∀(bk n s m:Nat) (x:Kn) (X0:Nat->Prop) (w:World),KPre bk n s m x X0 w-> ∀r∈x.P,∀N A B C:Int,qk N A B C->
 Calls Tryz.prog F #[.pointer (some ⟨bk,0,none⟩),.agg r,.agg #[.int .u32 N,.int .u32 A,.int .u32 B,.int .u32 C]] w (qX bk (n+1) s (m+1) x X0 w (Zw x (zX r)))
theorem does142:DoesF 142:=⟨⟨_,Tryz.func142,by kernel_rfl,by kernel_rfl⟩,fun bk n s m x X0 w h r hr N A B C hc=>twait_any bk n s m x X0 w h r hr N A B C hc⟩
theorem does143:DoesF 143:=⟨⟨_,Tryz.func143,by kernel_rfl,by kernel_rfl⟩,fun bk n s m x X0 w h r hr N A B C hc=>tpid_any bk n s m x X0 w h r hr N A B C hc⟩
theorem does144:DoesF 144:=⟨⟨_,Tryz.func144,by kernel_rfl,by kernel_rfl⟩,fun bk n s m x X0 w h r hr N A B C hc=>ttime_any bk n s m x X0 w h r hr N A B C hc⟩
theorem does145:DoesF 145:=⟨⟨_,Tryz.func145,by kernel_rfl,by kernel_rfl⟩,fun bk n s m x X0 w h r hr N A B C hc=>tput_any bk n s m x X0 w h r hr N A B C hc⟩
theorem does146:DoesF 146:=⟨⟨_,Tryz.func146,by kernel_rfl,by kernel_rfl⟩,fun bk n s m x X0 w h r hr N A B C hc=>tpipes_any bk n s m x X0 w h r hr N A B C hc⟩
theorem does147:DoesF 147:=⟨⟨_,Tryz.func147,by kernel_rfl,by kernel_rfl⟩,fun bk n s m x X0 w h r hr N A B C hc=>twrites_any bk n s m x X0 w h r hr N A B C hc⟩
theorem does148:DoesF 148:=⟨⟨_,Tryz.func148,by kernel_rfl,by kernel_rfl⟩,fun bk n s m x X0 w h r hr N A B C hc=>treads_any bk n s m x X0 w h r hr N A B C hc⟩
theorem does149:DoesF 149:=⟨⟨_,Tryz.func149,by kernel_rfl,by kernel_rfl⟩,fun bk n s m x X0 w h r hr N A B C hc=>tcloses_any bk n s m x X0 w h r hr N A B C hc⟩
theorem does150:DoesF 150:=⟨⟨_,Tryz.func150,by kernel_rfl,by kernel_rfl⟩,fun bk n s m x X0 w h r hr N A B C hc=>tsends_any bk n s m x X0 w h r hr N A B C hc⟩
theorem does151:DoesF 151:=⟨⟨_,Tryz.func151,by kernel_rfl,by kernel_rfl⟩,fun bk n s m x X0 w h r hr N A B C hc=>trecvs_any bk n s m x X0 w h r hr N A B C hc⟩
def TriedR(w:World)(e:Ending)(w':World):Prop:=((∃F,e= .returned (.tuple #[.agg #[.func (.func F) #[] #[]],.bool true])/\DoesF F)\/(∃z,e= .returned (.tuple #[.agg #[z],.bool false])/\z.oneCell'=true))/\Below w.heap.size w w'
theorem yx{M X0 X:Nat->Prop}{w0 W:World}{bs:List (Nat×Array Value×TypeId)}{G:(Nat->Prop)->World->Prop}(k:St M X0 w0 bs G X W)(i:Nat){b:Nat}{C:Array Value}{t:TypeId}(hi:bs[i]? =some (b,C,t))(T:TypeId){n:Nat}(ht:tyT T=some (true,n))(hn:C.size=n):
  (loadVar T ⟨b,0,none⟩).run Tryz.prog W= .ok (.agg C) W:=zY k i hi T (jg ht W).1 (jg ht W).2 hn
theorem tried_any(N:Int)(w:World):Calls Tryz.prog 118 #[.int .u32 N] w (TriedR w):=by
 have k:Hid (St (fun _=>False) (fun _=>False) w [] (fun _ _=>True) (fun _=>False) w):=St.begin (fun _ h=>h.elim) trivial xZ;by_cases h4:N=4
 ·subst h4
  go_enter Tryz.func118,Tryz.ntmps118;go_wp2_with(first|((with_reducible refine zx ?_);refine soa k rfl rfl rfl .a0 (by rfl) (by rfl) (zm rfl) ?_;clear k;intro W k)|((with_reducible refine zf ?_);refine ala k Tryz.zeroValue225 ?_;clear k;intro b225 X W k));exact bodyPost_ret (yh rfl _ rfl rfl (yx k.out 0 rfl 225 rfl rfl)) rfl ⟨.inl ⟨_,rfl,does142⟩,k.out.end⟩
 have d4:(N==4)=false:=by rw[beq_eq_false_iff_ne];exact h4
 clear h4;by_cases h6:N=6
 ·subst h6
  go_enter Tryz.func118,Tryz.ntmps118;go_wp2_with(first|((with_reducible refine zx ?_);refine soa k rfl rfl rfl .a0 (by rfl) (by rfl) (zm rfl) ?_;clear k;intro W k)|((with_reducible refine zf ?_);refine ala k Tryz.zeroValue225 ?_;clear k;intro b225 X W k));exact bodyPost_ret (yh rfl _ rfl rfl (yx k.out 0 rfl 225 rfl rfl)) rfl ⟨.inl ⟨_,rfl,does143⟩,k.out.end⟩
 have d6:(N==6)=false:=by rw[beq_eq_false_iff_ne];exact h6
 clear h6;by_cases h9:N=9
 ·subst h9
  go_enter Tryz.func118,Tryz.ntmps118;go_wp2_with(first|((with_reducible refine zx ?_);refine soa k rfl rfl rfl .a0 (by rfl) (by rfl) (zm rfl) ?_;clear k;intro W k)|((with_reducible refine zf ?_);refine ala k Tryz.zeroValue225 ?_;clear k;intro b225 X W k));exact bodyPost_ret (yh rfl _ rfl rfl (yx k.out 0 rfl 225 rfl rfl)) rfl ⟨.inl ⟨_,rfl,does144⟩,k.out.end⟩
 have d9:(N==9)=false:=by rw[beq_eq_false_iff_ne];exact h9
 clear h9;by_cases h10:N=10
 ·subst h10
  go_enter Tryz.func118,Tryz.ntmps118;go_wp2_with(first|((with_reducible refine zx ?_);refine soa k rfl rfl rfl .a0 (by rfl) (by rfl) (zm rfl) ?_;clear k;intro W k)|((with_reducible refine zf ?_);refine ala k Tryz.zeroValue225 ?_;clear k;intro b225 X W k));exact bodyPost_ret (yh rfl _ rfl rfl (yx k.out 0 rfl 225 rfl rfl)) rfl ⟨.inl ⟨_,rfl,does145⟩,k.out.end⟩
 have d10:(N==10)=false:=by rw[beq_eq_false_iff_ne];exact h10
 clear h10;by_cases h11:N=11
 ·subst h11
  go_enter Tryz.func118,Tryz.ntmps118;go_wp2_with(first|((with_reducible refine zx ?_);refine soa k rfl rfl rfl .a0 (by rfl) (by rfl) (zm rfl) ?_;clear k;intro W k)|((with_reducible refine zf ?_);refine ala k Tryz.zeroValue225 ?_;clear k;intro b225 X W k));exact bodyPost_ret (yh rfl _ rfl rfl (yx k.out 0 rfl 225 rfl rfl)) rfl ⟨.inl ⟨_,rfl,does146⟩,k.out.end⟩
 have d11:(N==11)=false:=by rw[beq_eq_false_iff_ne];exact h11
 clear h11;by_cases h12:N=12
 ·subst h12
  go_enter Tryz.func118,Tryz.ntmps118;go_wp2_with(first|((with_reducible refine zx ?_);refine soa k rfl rfl rfl .a0 (by rfl) (by rfl) (zm rfl) ?_;clear k;intro W k)|((with_reducible refine zf ?_);refine ala k Tryz.zeroValue225 ?_;clear k;intro b225 X W k));exact bodyPost_ret (yh rfl _ rfl rfl (yx k.out 0 rfl 225 rfl rfl)) rfl ⟨.inl ⟨_,rfl,does147⟩,k.out.end⟩
 have d12:(N==12)=false:=by rw[beq_eq_false_iff_ne];exact h12
 clear h12;by_cases h13:N=13
 ·subst h13
  go_enter Tryz.func118,Tryz.ntmps118;go_wp2_with(first|((with_reducible refine zx ?_);refine soa k rfl rfl rfl .a0 (by rfl) (by rfl) (zm rfl) ?_;clear k;intro W k)|((with_reducible refine zf ?_);refine ala k Tryz.zeroValue225 ?_;clear k;intro b225 X W k));exact bodyPost_ret (yh rfl _ rfl rfl (yx k.out 0 rfl 225 rfl rfl)) rfl ⟨.inl ⟨_,rfl,does148⟩,k.out.end⟩
 have d13:(N==13)=false:=by rw[beq_eq_false_iff_ne];exact h13
 clear h13;by_cases h14:N=14
 ·subst h14
  go_enter Tryz.func118,Tryz.ntmps118;go_wp2_with(first|((with_reducible refine zx ?_);refine soa k rfl rfl rfl .a0 (by rfl) (by rfl) (zm rfl) ?_;clear k;intro W k)|((with_reducible refine zf ?_);refine ala k Tryz.zeroValue225 ?_;clear k;intro b225 X W k));exact bodyPost_ret (yh rfl _ rfl rfl (yx k.out 0 rfl 225 rfl rfl)) rfl ⟨.inl ⟨_,rfl,does149⟩,k.out.end⟩
 have d14:(N==14)=false:=by rw[beq_eq_false_iff_ne];exact h14
 clear h14;by_cases h15:N=15
 ·subst h15
  go_enter Tryz.func118,Tryz.ntmps118;go_wp2_with(first|((with_reducible refine zx ?_);refine soa k rfl rfl rfl .a0 (by rfl) (by rfl) (zm rfl) ?_;clear k;intro W k)|((with_reducible refine zf ?_);refine ala k Tryz.zeroValue225 ?_;clear k;intro b225 X W k));exact bodyPost_ret (yh rfl _ rfl rfl (yx k.out 0 rfl 225 rfl rfl)) rfl ⟨.inl ⟨_,rfl,does150⟩,k.out.end⟩
 have d15:(N==15)=false:=by rw[beq_eq_false_iff_ne];exact h15
 clear h15;by_cases h16:N=16
 ·subst h16
  go_enter Tryz.func118,Tryz.ntmps118;go_wp2_with(first|((with_reducible refine zx ?_);refine soa k rfl rfl rfl .a0 (by rfl) (by rfl) (zm rfl) ?_;clear k;intro W k)|((with_reducible refine zf ?_);refine ala k Tryz.zeroValue225 ?_;clear k;intro b225 X W k));exact bodyPost_ret (yh rfl _ rfl rfl (yx k.out 0 rfl 225 rfl rfl)) rfl ⟨.inl ⟨_,rfl,does151⟩,k.out.end⟩
 have d16:(N==16)=false:=by rw[beq_eq_false_iff_ne];exact h16
 clear h16;go_enter Tryz.func118,Tryz.ntmps118;go_wp2_with(first|((with_reducible refine zx ?_);refine soa k rfl rfl rfl .a0 (by rfl) (by rfl) (zm rfl) ?_;clear k;intro W k)|((with_reducible refine zf ?_);refine ala k Tryz.zeroValue225 ?_;clear k;intro b225 X W k));exact bodyPost_ret (yh rfl _ rfl rfl (yx k.out 0 rfl 225 rfl rfl)) rfl ⟨.inr ⟨_,rfl,rfl⟩,k.out.end⟩
def TriesR(x:Kn)(p:Int)(e:Ending)(x':Kn):Prop:=(∃b:Bool,e= .returned (.bool b))/\Liv x.P x'.P/\p∈xh x'.P/\x'.gone=x.gone/\x'.want=x.want
theorem gt{l:List (Array Value)}{p:Int}{r:Array Value}{b:Bool}(hp:p∈xh l)(h1:b=true->r∈l/\zX r=p)(h2:b=false-> ∀q∈l,zX q≠p):r∈l/\zX r=p:=by
 cases b with
 |true=>exact h1 rfl
 |false=>
  obtain⟨q,hq,he⟩:=qy.1 hp;exact absurd he (h2 rfl q hq)
theorem tries_any(bk n s m:Nat)(x:Kn)(X0:Nat->Prop)(w:World)(h:KPre bk n s m x X0 w)(p:Int)(hp:p∈xh x.P)(N A B C:Int)(hc:qk N A B C)(hn:n+2<=1000000)(hm:m+1<=1000000):
  Calls Tryz.prog 90 #[.pointer (some ⟨bk,0,none⟩),.int .i64 p,.agg #[.int .u32 N,.int .u32 A,.int .u32 B,.int .u32 C]] w (qX bk (n+2) s (m+1) x X0 w (TriesR x p)):=by
 have k:=zj h.begin;have OK:=Lib.hid h.ok;have HB:=Lib.hid h.blk;have hs:=h.hs;clear h;go_enter Tryz.func90,Tryz.ntmps90;go_wp2_with(first|((with_reducible refine zz ?_);refine ld1 k rfl rfl .a1 (by rfl) ?_)|((with_reducible refine zI ?_);refine bxa k rfl ?_;clear k;intro b X W k));refine(jk _ x.P p _ _ k.out.fact.P OK.out.P.ty).mono ?_;rintro e W1 ⟨r,b,rfl,hr,hf1,hf2,hb⟩;obtain⟨hrm,hrp⟩:=gt hp hf1 (fun h=>(hf2 h).1);have hrs:r.size=26:=hr.size;have hro:=hr.one;have HM:=Lib.hid hrm;have HP:=Lib.hid hrp;replace k:=zj (k.out.call hb);clear hb hf1 hf2 hrm hrp;go_wp2_with(first|((with_reducible refine zz ?_);refine ld1 k rfl rfl .a1 (by rfl) ?_)|((with_reducible refine zx ?_);refine soa k rfl rfl rfl .a0 (by assumption) (by rfl) (by assumption) ?_;clear k;intro W k)|((with_reducible refine zf ?_);refine ala k Tryz.zeroValue132 ?_;clear k;intro b132 X W k));refine(tried_any N _).mono ?_;rintro e W1 ⟨⟨F,rfl,hfn,hF⟩|⟨z,rfl,hz⟩,hb⟩
 ·replace k:=zj (k.out.call hb)
  have HF:=Lib.hid hF;have hcf: ∀args w,(callFunc F args).run Tryz.prog w= .ok (.enter F args) w:=fun args w=>yk hfn args;clear hb hF;go_wp2_with(first|((with_reducible refine zz ?_);first|(refine ld1 k rfl rfl (by repeat constructor) (by rfl) ?_)|(refine lda k rfl rfl (by repeat constructor) (by first|rfl|assumption) ?_))|((with_reducible refine zx ?_);refine soa k rfl rfl rfl .a0 (by rfl) (by rfl) (zm rfl) ?_;clear k;intro W k)|((with_reducible refine zf ?_);refine ala k Tryz.zeroValue225 ?_;clear k;intro b225 X W k));refine(HF.out bk n s m x _ _ ⟨k.out.blk (i:=3) rfl,(k.out.box (i:=3) rfl).1,k.out.lt,k.out.fact,OK.out,(by omega),(by omega),(by omega)⟩ r HM.out N A B C hc).mono ?_;rintro e W1 ⟨x1,⟨v,y,rfl,hv0,hv1,hLv,hIn,hgo,hwa⟩,hok1,hsl1,hrel1,hb⟩;have OK1:=Lib.hid hok1;have REL:=Lib.hid hrel1;rw[HP.out] at hIn;replace k:=zj (k.out.kcall (i:=3) rfl hb hsl1);clear hb hsl1 hok1 hrel1 hcf;replace k:Hid (St _ _ _ [(_,_,_),(_,_,_),(_,_,_),(_,KC x1,_)] _ _ _):=k;by_cases hy:y=6
  ·subst hy
   by_cases h16:N=16
   ·subst h16
    go_wp2_with(first|((with_reducible refine zp ?_);first|refine zg rfl rfl rfl (by with_reducible rfl) ?_)|((with_reducible refine zz ?_);refine ld1 k rfl rfl (by repeat constructor) (by rfl) ?_));refine(jk _ x1.P p _ _ k.out.fact.P OK1.out.P.ty).mono ?_;rintro e W1 ⟨r2,b2,rfl,hr2,hf1,hf2,hb⟩;obtain⟨hrm,hrp⟩:=gt hIn hf1 (fun h=>(hf2 h).1);have hrs2:r2.size=26:=hr2.size;have hro2:=hr2.one;replace k:=zj (k.out.call hb);clear hb hf1 hf2;go_wp2_with(first|((with_reducible refine zz ?_);refine lda k rfl rfl (by repeat constructor) (by first|rfl|assumption) ?_)|((with_reducible refine zx ?_);refine soa k rfl rfl rfl .a1 (by assumption) (by assumption) (by assumption) ?_;clear k;intro W k));refine(yV bk (n+1) s (m+1) x1 _ _ ⟨k.out.blk (i:=3) rfl,(k.out.box (i:=3) rfl).1,k.out.lt,k.out.fact,OK1.out,(by omega),(by omega),(by omega)⟩ r2 hr2 (by rw[hrp];exact hIn) (OK1.out.P.par r2 hrm) 16 A B C v 6 hc hv0 hv1).mono ?_;rintro e W1 ⟨x2,⟨rfl,hp2,hLv2,hgo2,hwa2⟩,hok2,hsl2,hrel2,hb⟩;replace k:=zj (k.out.kcall (i:=3) rfl hb hsl2);clear hb hsl2;go_wp2_with fail;exact bodyPost_ret (zh rfl rfl) rfl (k.out.kpost (x':=x2) 3 rfl HB.out k.out.fact (hok2.mono (by omega) (Nat.le_refl _) (Nat.le_refl _)) (REL.out.trans hrel2) ⟨⟨_,rfl⟩,hLv.trans hLv2,by rw[hp2];exact hIn,hgo2.trans hgo,hwa2.trans hwa⟩)
   ·have d16:(N==16)=false:=by rw[beq_eq_false_iff_ne];exact h16
    have n16: ¬(N=16):=h16;go_wp2_with(first|((with_reducible refine zp ?_);first|refine zg rfl rfl rfl (by with_reducible rfl) ?_)|((with_reducible refine zz ?_);refine ld1 k rfl rfl .a2 (by rfl) ?_));exact bodyPost_ret (zh rfl rfl) rfl (k.out.kpost 3 rfl HB.out k.out.fact (OK1.out.mono (by omega) (Nat.le_refl _) (Nat.le_refl _)) REL.out ⟨⟨_,rfl⟩,hLv,hIn,hgo,hwa⟩)
  ·have d6:(y==6)=false:=by rw[beq_eq_false_iff_ne];exact hy
   have n6: ¬(y=6):=hy;go_wp2_with(first|((with_reducible refine zp ?_);first|go_big_skip)|((with_reducible refine zz ?_);refine ld1 k rfl rfl .a3 (by rfl) ?_));refine(jk _ x1.P p _ _ k.out.fact.P OK1.out.P.ty).mono ?_;rintro e W1 ⟨r2,b2,rfl,hr2,hf1,hf2,hb⟩;obtain⟨hrm,hrp⟩:=gt hIn hf1 (fun h=>(hf2 h).1);have hrs2:r2.size=26:=hr2.size;have hro2:=hr2.one;replace k:=zj (k.out.call hb);clear hb hf1 hf2;go_wp2_with(first|((with_reducible refine zz ?_);refine lda k rfl rfl (by repeat constructor) (by first|rfl|assumption) ?_)|((with_reducible refine zx ?_);refine soa k rfl rfl rfl .a1 (by assumption) (by assumption) (by assumption) ?_;clear k;intro W k));refine(yV bk (n+1) s (m+1) x1 _ _ ⟨k.out.blk (i:=3) rfl,(k.out.box (i:=3) rfl).1,k.out.lt,k.out.fact,OK1.out,(by omega),(by omega),(by omega)⟩ r2 hr2 (by rw[hrp];exact hIn) (OK1.out.P.par r2 hrm) N A B C v y hc hv0 hv1).mono ?_;rintro e W1 ⟨x2,⟨rfl,hp2,hLv2,hgo2,hwa2⟩,hok2,hsl2,hrel2,hb⟩;replace k:=zj (k.out.kcall (i:=3) rfl hb hsl2);clear hb hsl2;go_wp2_with fail;exact bodyPost_ret (zh rfl rfl) rfl (k.out.kpost (x':=x2) 3 rfl HB.out k.out.fact (hok2.mono (by omega) (Nat.le_refl _) (Nat.le_refl _)) (REL.out.trans hrel2) ⟨⟨_,rfl⟩,hLv.trans hLv2,by rw[hp2];exact hIn,hgo2.trans hgo,hwa2.trans hwa⟩)
 ·replace k:=zj (k.out.call hb)
  clear hb;go_wp2_with(first|((with_reducible refine zp ?_);first|go_big_skip)|((with_reducible refine zz ?_);refine ld1 k rfl rfl .a3 (by rfl) ?_)|((with_reducible refine zx ?_);refine soa k rfl rfl rfl .a0 rfl rfl (fun u hu=>by simp at hu;subst hu;exact hz) ?_;clear k;intro W k)|((with_reducible refine zf ?_);refine ala k Tryz.zeroValue225 ?_;clear k;intro b225 X W k));refine(jk _ x.P p _ _ k.out.fact.P OK.out.P.ty).mono ?_;rintro e W1 ⟨r2,b2,rfl,hr2,hf1,hf2,hb⟩;obtain⟨hrm,hrp⟩:=gt hp hf1 (fun h=>(hf2 h).1);have hrs2:r2.size=26:=hr2.size;have hro2:=hr2.one;replace k:=zj (k.out.call hb);clear hb hf1 hf2;go_wp2_with(first|((with_reducible refine zz ?_);refine lda k rfl rfl (by repeat constructor) (by first|rfl|assumption) ?_)|((with_reducible refine zx ?_);refine soa k rfl rfl rfl .a1 (by assumption) (by assumption) (by assumption) ?_;clear k;intro W k));refine(yV bk n s m x _ _ ⟨k.out.blk (i:=3) rfl,(k.out.box (i:=3) rfl).1,k.out.lt,k.out.fact,OK.out,(by omega),(by omega),(by omega)⟩ r2 hr2 (by rw[hrp];exact hp) (OK.out.P.par r2 hrm) N A B C 0 1 hc (by omega) (by omega)).mono ?_;rintro e W1 ⟨x2,⟨rfl,hp2,hLv2,hgo2,hwa2⟩,hok2,hsl2,hrel2,hb⟩;replace k:=zj (k.out.kcall (i:=3) rfl hb hsl2);clear hb hsl2;go_wp2_with fail;exact bodyPost_ret (zh rfl rfl) rfl (k.out.kpost (x':=x2) 3 rfl HB.out k.out.fact (hok2.mono (by omega) (Nat.le_refl _) (Nat.le_succ m)) hrel2 ⟨⟨_,rfl⟩,hLv2,by rw[hp2];exact hp,hgo2,hwa2⟩)
end Go.Proofs.YtaccidkgnkmagaaGreatDoor.Top
