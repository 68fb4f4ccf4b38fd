/-
  Walks and laws of the whole machine: Take. Conditions: each theorem names its own.
-/
import Derived.Test.YtaccidkgnkmagaaGreatDoorTs14
import Derived.Scope
set_option maxRecDepth 16000
set_option maxHeartbeats 12800000
set_option linter.unusedVariables false
set_option linter.unusedSimpArgs false
namespace Go.Proofs.YtaccidkgnkmagaaGreatDoor.Top
section
open Go.RowKit
attribute [local go_sem] Oper.semAt_some
def HTakeR(hsz:Int)(n:Nat)(X:Nat->Prop)(w:World)(e:Ending)(w':World):Prop:=
 ∃(v:Value) (l:List (Array Value)) (a y:Int),e= .returned (.tuple #[.agg #[.int .i64 hsz,v],.int .i64 a,.int .i64 y])/\Sl 3 v l X w' /\(∀r∈l,Ty vv r)/\l.length<=n/\(y=0\/y=1\/y=5)/\Below w.heap.size w w'
theorem holes_any(C:Array Value)(w:World):Calls Tryz.prog 76 #[.agg C] w fun e w'=> ∃bt:Nat,e= .returned (.func (.func 105) #[] #[.pointer (some ⟨bt,0,none⟩)])/\w.heap.size<=bt/\Blk w' bt C 50/\Below w.heap.size w w':=by
 go_enter Tryz.func76,Tryz.ntmps76;go_wp2_with(refine yf rfl 50 (.tmp 0) rfl _ rfl C rfl ?_;intro W1 hk1 hb1 hz1)
 go_ret
 exact⟨_,rfl,Nat.le_refl _,hk1,hb1⟩
theorem ret_none{fn:Func}{R:Ending->World->Prop}{tmps:Array Value}{v:Value}{W:World}(hres:(results fn tmps).run Tryz.prog W= .ok v W)(hR:R (.returned v) W):Exit.noGoto (bodyPostM Fence.wide 9 Tryz.prog fn R) .ret {tmps:=tmps,defers:=[]} W:=⟨v,hres,hR⟩
theorem jp{fn:Func}{R:Ending->World->Prop}{tmps:Array Value}{n:Nat}{v:Value}{W:World}(hD:W.heap[n]? =some (.deferred (some [])))(hres:(results fn tmps).run Tryz.prog (W.putObj n (.deferred none))= .ok v (W.putObj n (.deferred none)))(hR:R (.returned v) (W.putObj n (.deferred none))):
  Exit.noGoto (bodyPostM Fence.wide 9 Tryz.prog fn R) .ret {tmps:=tmps,defers:=[{target:= .collected n,args:= #[]}]} W:=vm hD hres hR
theorem xE{M X0 X:Nat->Prop}{w0 W:World}{bs:List (Nat×Array Value×TypeId)}{G:(Nat->Prop)->World->Prop}(k:St M X0 w0 bs G X W)(i:Nat){b:Nat}{C:Array Value}{t:TypeId}(hi:bs[i]? =some (b,C,t))(T:TypeId){n:Nat}(ht:tyT T=some (true,n))(hn:C.size=n):
  (loadVar T ⟨b,0,none⟩).run Tryz.prog W= .ok (.agg C) W:=zY k i hi T (jg ht W).1 (jg ht W).2 hn
theorem holes_iter{vH:Value}{bt n:Nat}{l:List (Array Value)}{hsz:Int}{I:World->Prop}{IS:Code->World->Prop}{a:Act}{ps:Array Tmp}{assign body:Code}(hl: ∀r∈l,Ty vv r)(hle:l.length<=1000000)(h0: -9223372036854775808<=hsz/\hsz<=9223372036854775807)
  (h1: ∀W,I W->Blk W bt #[.int .i64 hsz,vH] 50/\Sl 3 vH l (fun _=>False) W/\n+1<W.heap.size) (h2: ∀W W',I W->Below W.heap.size W W'->I W'):
  ∀(fn:FuncId) (W:World),(∀(k:Nat) (x:Int×Int) W,(I W/\Rec fn a ps assign body n .ready none W)->(-9223372036854775808<=x.1/\x.1<=9223372036854775807)->YieldAt Fence.wide 7 Tryz.prog (n+1) #[.agg #[.int .i64 x.1,.int .i64 x.2,.int .i64 0]] W fun e W'=> ∃b,e= .returned (.bool b)/\(b=true->(I W' /\Rec fn a ps assign body n .ready none W')/\Only (fun b=>b<=n+1) W W')/\(b=false-> ∃c,IS c W' /\Rec fn a ps assign body n .done (some c) W'))->
   (I W/\Rec fn a ps assign body n .ready none W)->CallsIn Fence.wide 8 Tryz.prog 105 (#[.func (.yield (n+1)) #[] #[]]++ #[.pointer (some ⟨bt,0,none⟩)]) W fun e W'=>(∃v,e= .returned v)/\((I W' /\Rec fn a ps assign body n .ready none W')\/ ∃c,IS c W' /\Rec fn a ps assign body n .done (some c) W'):=by
 intro fn W hY hI;exact holes_in 8 n (n+1) bt hsz vH l (fun W=>I W/\Rec fn a ps assign body n .ready none W) (fun W=> ∃c,IS c W/\Rec fn a ps assign body n .done (some c) W) hl hle h0 (fun W h=>h1 W h.1) (fun W W' h hb=>⟨h2 W W' h.1 hb,h.2.below hb⟩) (fun x y W hx h=>hY 0 (x,y) W h hx) W hI
theorem only_eq{n:Nat}{W Wa W2:World}{o:Obj}(e:W2=Wa.putObj (n+1) o)(h:Only (fun b=>b<=n+1) W Wa):Only (fun b=>b<=n+1) W W2:=e▸h.trans (Only.putObjK _ _) (fun _ _ h=>h)
theorem hcall105(args:Array Value)(w:World):(callFunc 105 args).run Tryz.prog w= .ok (.enter 105 args) w:=yk (h:=⟨_,Tryz.func105,by kernel_rfl,by kernel_rfl⟩) args
def HoG(v:Value)(l:List (Array Value))(hsz:Int)(bt:Nat)(X:Nat->Prop)(W:World):Prop:=Sl 3 v l X W/\RoB bt #[.int .i64 hsz,v] 50 X W
theorem htake_any(hsz who:Int)(v:Value)(l:List (Array Value))(X0:Nat->Prop)(w:World)(h:Sl 3 v l X0 w)(hl: ∀r∈l,Ty vv r)(hle:l.length<=1000000)(hX: ∀b,X0 b->b<w.heap.size)(h0: -9223372036854775808<=hsz/\hsz<=9223372036854775807)(hw0: -9223372036854775808<=who)(hw1:who<=9223372036854775807):
  Calls Tryz.prog 65 #[.agg #[.int .i64 hsz,v],.int .i64 64,.int .i64 who] w (HTakeR hsz (l.length+1) X0 w):=by
 obtain⟨A,c,rfl,hlc,hcm⟩:=h.len;unfold maxLen at hcm;have k:Hid (St (fun _=>False) X0 w [] (Sl 3 (.slice A l.length c) l) X0 w):=St.begin hX h (zb _ _ _);have HL:=Lib.hid hl;have hv1:(Value.slice A l.length c).oneCell'=true:=rfl;clear h hl;refine(callsIn_wide (n:=9)).1 ?_;refine callsIn_of_wp_marks Tryz.func65 rfl trivial ?_ rfl;simp only[Tryz.ntmps65,List.size_toArray,List.length_cons,List.length_nil,Nat.reduceAdd,Nat.reduceSub,Array.replicate_succ,Array.replicate_zero,List.push_toArray,List.append_toArray,List.nil_append,List.cons_append];refine wpIn_wide.2 ?_;go_wp2_with(first|((with_reducible refine zI ?_);first|(refine bxa k (T:=50) rfl ?_;clear k;intro c50 X W k)|(refine bx1 k (T:=3) rfl rfl ?_;clear k;intro c3 X W k))|((with_reducible refine zf ?_);refine ala k Tryz.zeroValue50 ?_;clear k;intro b50 X W k));refine wp_scope_straight ?_;go_wp2_with(first|((with_reducible refine zp ?_);first|refine zg rfl rfl rfl (by with_reducible rfl) ?_)|((with_reducible refine zz ?_);first|(refine ld1 k rfl rfl (by repeat constructor) (by rfl) ?_)|(refine lda k rfl rfl .a2 (by rfl) ?_)));refine(hright_any hsz _ l _ _ k.out.fact HL.out (by omega)).mono ?_;rintro e W1 ⟨⟨b0,rfl⟩,hb⟩;replace k:=zj (k.out.call hb);clear hb;cases b0 with
 |false=>
  go_wp2_with(first|((with_reducible refine zp ?_);first|refine zg rfl rfl rfl (by with_reducible rfl) ?_)|((with_reducible refine zz ?_);refine lda k rfl rfl .a2 (by rfl) ?_)|((with_reducible refine zx ?_);refine soa k rfl rfl rfl .a0 (by rfl) (by rfl) (zm rfl) ?_;clear k;intro W k));exact ret_none (yg rfl _ rfl rfl rfl (xE k.out 0 rfl 50 rfl rfl)) ⟨_,l,0,1,rfl,k.out.out,HL.out,by omega,.inr (.inl rfl),k.out.end⟩
 |true=>
  go_wp2_with(first|((with_reducible refine zp ?_);first|refine zg rfl rfl rfl (by with_reducible rfl) ?_)|((with_reducible refine zx ?_);refine so1 k rfl rfl rfl (by rfl) .a0 (by rfl) rfl ?_;clear k;intro W k)|((with_reducible refine zf ?_);refine al1 k Tryz.zeroValue3 rfl ?_;clear k;intro b3 X W k));refine wp_label ?_;go_wp2_with((with_reducible refine zz ?_);refine lda k rfl rfl .a3 (by rfl) ?_);refine(holes_any _ _).mono ?_;rintro e W1 ⟨bt,rfl,hbt,hk1,hb⟩;replace k:=zj ((k.out.call hb).add (H:=RoB bt #[.int .i64 hsz,.slice A l.length c] 50) ⟨hk1,fun hx=>by have:=k.out.lt _ hx;omega⟩ (vE _ _ _));clear hk1 hb;have hbtr:=k.out.fact.2;replace k:Hid (St _ _ _ [(b3,#[.int .i64 (-1)],3),(b50,#[.int .i64 0,.slice none 0 0],50),(c3,#[.int .i64 64],3),(c50,#[.int .i64 hsz,.slice A l.length c],50)] (HoG (.slice A l.length c) l hsz bt) _ _):=k;have hbl: ∀b∈ [b3,b50,c3,c50],b<=W1.heap.size:=by
   have q0:=(k.out.blk (i:=0) rfl).lt;have q1:=(k.out.blk (i:=1) rfl).lt;have q2:=(k.out.blk (i:=2) rfl).lt;have q3:=(k.out.blk (i:=3) rfl).lt;intro b hb;simp only[List.mem_cons,List.not_mem_nil,or_false] at hb;omega
  go_wp2_with fail;refine wp_range_keep 105 #[.pointer (some ⟨bt,0,none⟩)] 0 (fun x:Int×Int=> .agg #[.int .i64 x.1,.int .i64 x.2,.int .i64 0]) (fun _ x=> -9223372036854775808<=x.1/\x.1<=9223372036854775807) rfl hcall105
   (fun _ W'=> ∃a:Int,(-9223372036854775808<=a/\a<=9223372036854775807)/\Betw (fun _=>False) X0 w W1.heap.size [(b3,#[.int .i64 a],3),(b50,#[.int .i64 0,.slice none 0 0],50),(c3,#[.int .i64 64],3),(c50,#[.int .i64 hsz,.slice A l.length c],50)] (HoG (.slice A l.length c) l hsz bt) W')
   (fun c' W'=>c'=Code.exit 0/\ ∃a:Int,(-9223372036854775808<=a/\a<=9223372036854775807)/\Betw (fun _=>False) X0 w W1.heap.size [(b3,#[.int .i64 a],3),(b50,#[.int .i64 0,.slice none 0 0],50),(c3,#[.int .i64 64],3),(c50,#[.int .i64 hsz,.slice A l.length c],50)] (HoG (.slice A l.length c) l hsz bt) W') ?hput ?hputS ?h0 ?hiter ?hround ?hdone ?hstop
  case h0=>exact fun o=>⟨-1,by omega,k.out.betw _ _⟩
  case hput=>
   rintro _ W o ⟨a,ha,h⟩;exact⟨a,ha,h.put o⟩
  case hputS=>
   rintro _ W o ⟨h1,a,ha,h⟩;exact⟨h1,a,ha,h.put o⟩
  case hiter=>
   exact holes_iter HL.out hle h0 (fun W ⟨a,_,hI⟩=>by
    obtain⟨X,hX',k2⟩:=hI.open;exact⟨k2.fact.2.1,(zb _ _ _).sub (fun _ h=>h.elim) k2.fact.1,k2.lt _ hX'.2⟩) (fun W W' ⟨a,ha,hI⟩ hb=>⟨a,ha,hI.call hb⟩)
  case hround=>
   rintro fn kk ⟨sx,sy⟩ W ⟨a,har,hI⟩ hR hcan;obtain⟨X,hX',k1⟩:=hI.open;have hszn:W1.heap.size+1<W.heap.size:=(Array.getElem?_eq_some_iff.1 hR.2).1;have hI':=Lib.hid hI;have hR':=Lib.hid hR;have K1:=Lib.hid k1;clear k hI hR;have k:=zj k1.again
   gi_wp2_with (refine qQ rfl (fun _ h=>by cases h) ?_;(first|((with_reducible refine zx ?_);refine soa k rfl rfl rfl .a0 (by rfl) (by rfl) (zm rfl) ?_;clear k;intro W k)|((with_reducible refine zf ?_);refine ala k Tryz.zeroValue165 ?_;clear k;intro b165 X W k));refine yp ?_)
   refine⟨hR'.out.keep k.out (fun x hx=>(hI'.out.1 x hx).1) (fun x hx=>(hI'.out.1 x hx).2),?_⟩;generalize hW2':World.putObj _ (W1.heap.size+1) _=W2;have hW2:=hW2'.symm;clear hW2';have hRb:=(hR'.out.keep k.out (fun x hx=>(hI'.out.1 x hx).1) (fun x hx=>(hI'.out.1 x hx).2)).put (st':= .busy) (p':=none);rw[<-hW2] at hRb;have hB0:=hI'.out.back hszn hX' k.out K1.out;have hB:=betw_eq hW2 hB0;have o1:=only_eq hW2 (k.out.only.mono (M':=fun b=>b<=W1.heap.size+1) (fun x _ ⟨y,hy,e⟩=>e▸Nat.le_succ_of_le (hbl y.1 (List.mem_map.2 ⟨y,hy,rfl⟩))));have hne1:=fun L (h1:W1.heap.size<L) (h2:L<_)=>k.out.mem_ne (M:=fun _=>False) h2 (fun x hx e=>by have:=hbl x.1 (List.mem_map.2 ⟨x,hx,rfl⟩);omega);clear hB0 hW2;have hRb':=Lib.hid hRb;have hB':=Lib.hid hB;have O1:=Lib.hid o1;have HN:=Lib.hid hne1;clear hI' hR' k hRb o1 hne1;obtain⟨X2,hX2,k3⟩:=hB.open;have K3:=Lib.hid k3;have k:=zj k3.again;clear hB;have hsz2:W1.heap.size+1<W2.heap.size:=(Array.getElem?_eq_some_iff.1 hRb'.out.2).1;by_cases hst:64<=sy
   ·have d1:decide (64<=sy)=true:=decide_eq_true hst
    gi_wp2_with (refine qQ rfl (fun _ h=>by cases h) ?_;(first|((with_reducible refine zz ?_);refine ld1 k rfl rfl (by repeat constructor) (by rfl) ?_)|((with_reducible refine zx ?_);refine so1 k rfl rfl rfl (by rfl) .a1 (by rfl) rfl ?_;clear k;intro W k));refine yp ?_)
    refine⟨hRb'.out.keep k.out (fun x hx=>(hB'.out.1 x hx).1) (fun x hx=>(hB'.out.1 x hx).2),sx,hcan,?_⟩;exact hB'.out.back hsz2 hX2 (k.out.drop (n:=1)) K3.out
   ·have d1:decide (64<=sy)=false:=decide_eq_false hst
    gi_wp2_with (refine qQ rfl (fun _ h=>by cases h) ?_;((with_reducible refine zz ?_);refine ld1 k rfl rfl (by repeat constructor) (by rfl) ?_);refine yp ?_)
    refine⟨hRb'.out.keep k.out (fun x hx=>(hB'.out.1 x hx).1) (fun x hx=>(hB'.out.1 x hx).2),⟨a,har,?_⟩,?_⟩
    ·exact hB'.out.back hsz2 hX2 (k.out.drop (n:=1)) K3.out
    ·refine O1.out.trans k.out.only (fun x hx ⟨y,hy,e⟩=> ?_)
     rcases Nat.lt_or_ge (W1.heap.size+1) x with h9|h9
     ·exact absurd e (HN.out x (by omega) hx y hy)
     ·exact h9
  case hdone=>
   rintro W ⟨a,har,hI⟩ hD;obtain⟨X,hX',k1⟩:=hI.open;have hsn:W1.heap.size<W.heap.size:=(Array.getElem?_eq_some_iff.1 hD).1;have hszn:W1.heap.size+1<W.heap.size:=k1.lt _ hX'.2;have hI':=Lib.hid hI;have hD':=Lib.hid hD;have K1:=Lib.hid k1;clear k hI hD;have k:=zj k1.again;obtain⟨ha0,ha1⟩:=har;by_cases ha:a<0
   ·have da:decide (a<0)=true:=decide_eq_true ha
    go_wp2_with(first|((with_reducible refine zz ?_);first|(refine ld1 k rfl rfl (by repeat constructor) (by rfl) ?_)|(refine lda k rfl rfl .a3 (by rfl) ?_))|((with_reducible refine zx ?_);refine soa k rfl rfl rfl .a1 (by rfl) (by rfl) (zm rfl) ?_;clear k;intro W k));have hB:=hI'.out.back hszn hX' k.out K1.out;have hD2:=(k.out.only.block _ hsn (fun⟨x,hx,e⟩=>(hI'.out.1 x hx).1 e)).trans hD'.out;obtain⟨X9,k9⟩:=hB.fin;exact jp hD2 (yg rfl _ rfl rfl rfl (xE k9 1 rfl 50 rfl rfl)) ⟨_,l,0,5,rfl,k9.out.1,HL.out,by omega,.inr (.inr rfl),k9.end⟩
   ·have da:decide (a<0)=false:=decide_eq_false ha
    go_wp2_with((with_reducible refine zz ?_);refine ld1 k rfl rfl .a0 (by rfl) ?_)
    go_loopw [11] (fun i W'=> ∃kk:Nat,kk<=l.length/\i= .int .i64 kk/\Hid (Stay (fun b=> ∃x∈ [(b3,#[Value.int .i64 a],3),(b50,#[Value.int .i64 0,Value.slice none 0 0],50),(c3,#[Value.int .i64 64],3),(c50,#[Value.int .i64 hsz,Value.slice A l.length c],50)],x.1=b) X W [(b3,#[Value.int .i64 a],3),(b50,#[Value.int .i64 0,Value.slice none 0 0],50),(c3,#[Value.int .i64 64],3),(c50,#[Value.int .i64 hsz,Value.slice A l.length c],50)] (HoG (.slice A l.length c) l hsz bt) W')) (fun i _=>l.length-(intOf i).toNat)
    case atStart=>exact⟨0,Nat.zero_le _,rfl,zj ⟨_,k.out⟩⟩
    case round=>
     obtain⟨kk,hk,rfl,hS⟩:=hrel;obtain⟨X4,k4⟩:=hS.out;clear k hS;have k:=zj k4;clear k4;by_cases hkl:kk<l.length
     ·obtain⟨row,hrow⟩: ∃row,l[kk]? =some row:=⟨_,List.getElem?_eq_getElem hkl⟩
      have hsl:=k.out.fact.1;obtain⟨bp,op,rfl,_⟩:=hsl.row hrow (by decide);clear hsl;obtain⟨xa,xb,xc,rfl⟩:=span_lit (HL.out _ (List.mem_of_getElem? hrow));have hkz:(kk:Int)<l.length:=by omega
      have hwk:IntKind.i64.wrap (kk:Int)=kk:=xg (by omega) (by omega);by_cases hxa:xa<a
      ·go_upto_region 11 with fail
       have HPer:=Lib.hid k.out.per;refine zt k 15 15 (by kernel_rfl) rfl ?_;clear k;intro W k;refine zq [(0,some 32,[]),(1,some 33,[]),(2,some 34,[]),(3,some 35,[]),(4,some 36,[]),(5,some 37,[]),(6,some 38,[]),(7,some 39,[]),(8,some 40,[]),(9,some 41,[]),(10,some 42,[]),(11,some 43,[]),(12,some 44,[]),(13,some 45,[]),(14,some 46,[])] [?v1_0,?v1_1,?v1_2,?v1_3,?v1_4,?v1_5,?v1_6,?v1_7,?v1_8,?v1_9,?v1_10,?v1_11,?v1_12,?v1_13,?v1_14] 0 (by kernel_rfl) ⟨_,k.out⟩ ?l1 ?h1;case l1=>
        intro w' hSw;iterate 11
         refine lkw rfl rfl (by rfl) ?_ ?_
         ·first|((with_reducible refine yw ?_);first|exact hSw.l1 rfl rfl .a3 (by rfl))|(go_simp<;>with_reducible rfl)
         try simp only[Act.put,tS,t0,t1]
        refine lkw rfl rfl (by rfl) ?_ ?_
        ·refine yG rfl ?_
         obtain⟨X',hX'⟩:=hSw.get;exact ql hX'.1 hrow (by decide) (j:=0) rfl (Tryz.isAgg3 _)
        try simp only[Act.put,tS,t0,t1]
        iterate 3
         refine lkw rfl rfl (by rfl) ?_ ?_
         ·first|((with_reducible refine yw ?_);first|exact hSw.l1 rfl rfl .a0 (by rfl))|(go_simp<;>with_reducible rfl)
         try simp only[Act.put,tS,t0,t1]
        trivial
       simp only[zw,zk,Act.put,tS,t0,t1];refine zv (by kernel_rfl) ?_ _;clear HPer;have hwk1:IntKind.i64.wrap ((kk:Int)+1)=((kk+1:Nat):Int):=xg (by omega) (by omega);go_wp2_with fail
       go_roundw
       case rel=>exact⟨kk+1,hkl,rfl,zj ⟨_,k.out⟩⟩
       case measure=>simp[intOf];omega
      ·go_upto_region 11 with fail
       have HPer:=Lib.hid k.out.per;refine zt k 15 15 (by kernel_rfl) rfl ?_;clear k;intro W k;refine zq [(0,some 32,[]),(1,some 33,[]),(2,some 34,[]),(3,some 35,[]),(4,some 36,[]),(5,some 37,[]),(6,some 38,[]),(7,some 39,[]),(8,some 40,[]),(9,some 41,[]),(10,some 42,[]),(11,some 43,[]),(12,some 44,[]),(13,some 45,[]),(14,some 46,[])] [?v2_0,?v2_1,?v2_2,?v2_3,?v2_4,?v2_5,?v2_6,?v2_7,?v2_8,?v2_9,?v2_10,?v2_11,?v2_12,?v2_13,?v2_14] 0 (by kernel_rfl) ⟨_,k.out⟩ ?l2 ?h2;case l2=>
        intro w' hSw;iterate 11
         refine lkw rfl rfl (by rfl) ?_ ?_
         ·first|((with_reducible refine yw ?_);first|exact hSw.l1 rfl rfl .a3 (by rfl))|(go_simp<;>with_reducible rfl)
         try simp only[Act.put,tS,t0,t1]
        refine lkw rfl rfl (by rfl) ?_ ?_
        ·refine yG rfl ?_
         obtain⟨X',hX'⟩:=hSw.get;exact ql hX'.1 hrow (by decide) (j:=0) rfl (Tryz.isAgg3 _)
        try simp only[Act.put,tS,t0,t1]
        iterate 3
         refine lkw rfl rfl (by rfl) ?_ ?_
         ·first|((with_reducible refine yw ?_);first|exact hSw.l1 rfl rfl .a0 (by rfl))|(go_simp<;>with_reducible rfl)
         try simp only[Act.put,tS,t0,t1]
        trivial
       simp only[zw,zk,Act.put,tS,t0,t1];refine zv (by kernel_rfl) ?_ _;clear HPer;clear hxa hrow hwk hkl
       go_upto_region 13 with fail
       have HPer:=Lib.hid k.out.per;refine zt k 11 12 (by kernel_rfl) rfl ?_;clear k;intro W k;refine zq [(0,some 49,[11]),(1,some 50,[11]),(3,some 52,[11]),(4,some 53,[11]),(5,some 54,[11]),(6,some 55,[11]),(7,some 56,[11])] [?v4_0,?v4_1,?v4_3,?v4_4,?v4_5,?v4_6,?v4_7] 5 (by kernel_rfl) ⟨_,k.out⟩ ?l4 ?h4;case l4=>
        intro w' hSw;iterate 7
         refine lkw rfl rfl (by rfl) ?_ ?_
         ·first|((with_reducible refine yw ?_);first|exact hSw.l1 rfl rfl (by repeat constructor) (by rfl))|(go_simp<;>with_reducible rfl)
         try simp only[Act.put,tS,t0,t1]
        trivial
       simp only[zw,zk,Act.put,tS,t0,t1];refine yI (i:=2) (j:=8) (fuel:=4) (by kernel_rfl) rfl rfl ?_ ?_
       ·go_wp2_with fail
        have K0:=k;refine(qh _ l _ _ k.out.fact.1 (fun q hq=>(HL.out q hq).one) (by omega)).mono ?_;rintro e W6 ⟨v6,rfl,hown6,hb6⟩;replace k:=zj (k.out.call hb6);go_wp2_with fail;refine zd (yz ⟨_,k.out⟩) ?_;refine w1 8 3 (by kernel_rfl) rfl ?_;go_wp2_with((with_reducible refine qY ?_);refine yQ jl rfl rfl rfl rfl rfl (by decide) (by decide) ?_;intro W7 hk7 hb7 hz7);replace k:=zj (k.out.call hb7);refine zd (yz ⟨_,k.out⟩) ?_;refine w1 9 2 (by kernel_rfl) rfl ?_;go_wp2_with fail;have hown7:=own_only hown6 (Only.of_below (M:=fun _=>False) hb7) (fun _ _ h=>h);have hsz6:=hb6.size;have hsz7:=hb7.size;refine(jX W.heap.size v6 l kk _ #[Value.int .i64 a,Value.int .i64 64,Value.int .i64 who] W7 hown7 (fun q hq=>(HL.out q hq).size) (fun q hq=>(HL.out q hq).one) hk hk7 rfl (zm rfl) (fun e=>by have:=(jG hown6 e).2;omega) (by omega) (by omega)).mono ?_;rintro e W8 ⟨v8,rfl,hown8,hb8⟩;have htot:=hb6.trans ((hb7.mono hsz6).trans hb8);have hv8:=xu hown8;have HL2:Hid (∀q∈l.take kk++ [#[Value.int .i64 a,Value.int .i64 64,Value.int .i64 who]]++l.drop kk,Ty vv q):=jm HL.out ⟨yY ha0 ha1,yY (by decide) (by decide),yY hw0 hw1,trivial⟩;have hlen2:(l.take kk++ [#[Value.int .i64 a,Value.int .i64 64,Value.int .i64 who]]++l.drop kk).length<=l.length+1:=by simp;omega
        have hf:=zV hown8 (fun q hq=>(HL2.out q hq).size) K0.out.lt;replace k:=zj (K0.out.call htot);clear K0 hown8 hb8 htot;generalize l.take kk++ [#[Value.int .i64 a,Value.int .i64 64,Value.int .i64 who]]++l.drop kk=l2 at hf HL2 hlen2;go_wp2_with fail;refine zd (yz ⟨_,k.out⟩) ?_;refine zq [(10,some 59,[11])] [?v5_10] 1 (by kernel_rfl) ⟨_,k.out⟩ ?l5 ?h5;case l5=>
         intro w' hSw;refine lkw rfl rfl (by rfl) ?_ ?_
         ·go_simp<;>with_reducible rfl
         try simp only[Act.put,tS,t0,t1]
         trivial
        simp only[zw,zk,Act.put,tS,t0,t1];refine w1 11 0 (by kernel_rfl) rfl ?_;replace k:=zj (k.out.add hf (zb _ _ _));clear hf;go_wp2_with((with_reducible refine zx ?_);refine so1 k rfl rfl rfl (by assumption) .a3 (by rfl) rfl ?_;clear k;intro W k);refine zd (zJ rfl) ?_;refine zv (by kernel_rfl) ?_ _;clear HPer;replace k:Hid (St _ _ _ [(b3,#[.int .i64 a],3),(b50,#[.int .i64 0,.slice none 0 0],50),(c3,#[.int .i64 64],3),(c50,#[.int .i64 hsz,v8],50)] _ _ _):=k
        go_upto_region 14 with fail
        have HPer:=Lib.hid k.out.per;refine xj k 1 2 rfl rfl 5 5 (by kernel_rfl) rfl ?_;clear k;intro W k;refine zq [(0,some 60,[]),(1,some 61,[])] [?v6_0,?v6_1] 3 (by kernel_rfl) (.of rfl rfl rfl k.out) ?l6 ?h6;case l6=>
         intro w' hSw;obtain⟨_,_,_,_,_,_,hSw⟩:=hSw;iterate 2
          refine lkw rfl rfl (by rfl) ?_ ?_
          ·first|((with_reducible refine yw ?_);first|exact hSw.l1 rfl rfl (by repeat constructor) (by rfl)|exact hSw.la rfl rfl .a3 (by rfl) (by rfl)|exact hSw.lp rfl rfl (by repeat constructor) (D:= #[_,_]) (by rfl) (by rfl) (by rfl))|(go_simp<;>with_reducible rfl)
          try simp only[Act.put,tS,t0,t1]
         trivial
        simp only[zw,zk,Act.put,tS,t0,t1];refine w1 2 2 (by kernel_rfl) rfl ?_;go_wp2_with((with_reducible refine zx ?_);refine soa k rfl rfl rfl .a1 rfl rfl (yU rfl hv8) ?_;clear k;intro W k);refine zd (yz (.of rfl rfl rfl k.out)) ?_;refine zq [(3,some 7,[]),(4,some 8,[])] [?v7_3,?v7_4] 0 (by kernel_rfl) (.of rfl rfl rfl k.out) ?l7 ?h7;case l7=>
         intro w' hSw;obtain⟨_,_,_,_,_,_,hSw⟩:=hSw;iterate 2
          refine lkw rfl rfl (by rfl) ?_ ?_
          ·go_simp<;>with_reducible rfl
          try simp only[Act.put,tS,t0,t1]
         trivial
        simp only[zw,zk,Act.put,tS,t0,t1];refine zv (by kernel_rfl) ?_ _;clear HPer;go_wp2_with fail;have hB:=hI'.out.back hszn hX' k.out K1.out;have hD2:=(k.out.only.block _ hsn (fun⟨x,hx,e⟩=>(hI'.out.1 x hx).1 e)).trans hD'.out;obtain⟨X9,k9⟩:=hB.fin;exact jp hD2 (yg rfl _ rfl rfl rfl (xE k9 1 rfl 50 rfl rfl)) ⟨v8,l2,a,0,rfl,k9.out.2,HL2.out,hlen2,.inl rfl,k9.end⟩
       ·have K0:=k
        go_wp2_with((with_reducible refine qY ?_);refine yQ jl rfl rfl rfl rfl rfl (by decide) (by decide) ?_;intro W7 hk7 hb7 hz7);replace k:=zj (k.out.call hb7);refine zd (yz ⟨_,k.out⟩) ?_;refine w1 2 3 (by kernel_rfl) rfl ?_;go_wp2_with fail;refine(qh _ l _ _ k.out.fact.1 (fun q hq=>(HL.out q hq).one) (by omega)).mono ?_;rintro e W6 ⟨v6,rfl,hown6,hb6⟩;replace k:=zj (k.out.call hb6);have hk7':=hk7.below hb6;go_wp2_with fail;refine zd (yz ⟨_,k.out⟩) ?_;refine w1 9 2 (by kernel_rfl) rfl ?_;go_wp2_with fail;have hsz6:=hb6.size;have hsz7:=hb7.size;refine(jX W7.heap.size v6 l kk _ #[Value.int .i64 a,Value.int .i64 64,Value.int .i64 who] W6 hown6 (fun q hq=>(HL.out q hq).size) (fun q hq=>(HL.out q hq).one) hk hk7' rfl (zm rfl) (fun e=>by have:=(jG hown6 e).1;omega) (by omega) (by omega)).mono ?_;rintro e W8 ⟨v8,rfl,hown8,hb8⟩;have htot:=hb7.trans ((hb6.mono hsz7).trans (hb8.mono hsz7));replace hown8:=obase hown8 hsz7;have hv8:=xu hown8;have HL2:Hid (∀q∈l.take kk++ [#[Value.int .i64 a,Value.int .i64 64,Value.int .i64 who]]++l.drop kk,Ty vv q):=jm HL.out ⟨yY ha0 ha1,yY (by decide) (by decide),yY hw0 hw1,trivial⟩;have hlen2:(l.take kk++ [#[Value.int .i64 a,Value.int .i64 64,Value.int .i64 who]]++l.drop kk).length<=l.length+1:=by simp;omega
        have hf:=zV hown8 (fun q hq=>(HL2.out q hq).size) K0.out.lt;replace k:=zj (K0.out.call htot);clear K0 hown8 hb8 htot;generalize l.take kk++ [#[Value.int .i64 a,Value.int .i64 64,Value.int .i64 who]]++l.drop kk=l2 at hf HL2 hlen2;go_wp2_with fail;refine zd (yz ⟨_,k.out⟩) ?_;refine zq [(10,some 59,[11])] [?v8_10] 1 (by kernel_rfl) ⟨_,k.out⟩ ?l8 ?h8;case l8=>
         intro w' hSw;refine lkw rfl rfl (by rfl) ?_ ?_
         ·go_simp<;>with_reducible rfl
         try simp only[Act.put,tS,t0,t1]
         trivial
        simp only[zw,zk,Act.put,tS,t0,t1];refine w1 11 0 (by kernel_rfl) rfl ?_;replace k:=zj (k.out.add hf (zb _ _ _));clear hf;go_wp2_with((with_reducible refine zx ?_);refine so1 k rfl rfl rfl (by assumption) .a3 (by rfl) rfl ?_;clear k;intro W k);refine zd (zJ rfl) ?_;refine zv (by kernel_rfl) ?_ _;clear HPer;replace k:Hid (St _ _ _ [(b3,#[.int .i64 a],3),(b50,#[.int .i64 0,.slice none 0 0],50),(c3,#[.int .i64 64],3),(c50,#[.int .i64 hsz,v8],50)] _ _ _):=k
        go_upto_region 14 with fail
        have HPer:=Lib.hid k.out.per;refine xj k 1 2 rfl rfl 5 5 (by kernel_rfl) rfl ?_;clear k;intro W k;refine zq [(0,some 60,[]),(1,some 61,[])] [?v9_0,?v9_1] 3 (by kernel_rfl) (.of rfl rfl rfl k.out) ?l9 ?h9;case l9=>
         intro w' hSw;obtain⟨_,_,_,_,_,_,hSw⟩:=hSw;iterate 2
          refine lkw rfl rfl (by rfl) ?_ ?_
          ·first|((with_reducible refine yw ?_);first|exact hSw.l1 rfl rfl (by repeat constructor) (by rfl)|exact hSw.la rfl rfl .a3 (by rfl) (by rfl)|exact hSw.lp rfl rfl (by repeat constructor) (D:= #[_,_]) (by rfl) (by rfl) (by rfl))|(go_simp<;>with_reducible rfl)
          try simp only[Act.put,tS,t0,t1]
         trivial
        simp only[zw,zk,Act.put,tS,t0,t1];refine w1 2 2 (by kernel_rfl) rfl ?_;go_wp2_with((with_reducible refine zx ?_);refine soa k rfl rfl rfl .a1 rfl rfl (yU rfl hv8) ?_;clear k;intro W k);refine zd (yz (.of rfl rfl rfl k.out)) ?_;refine zq [(3,some 7,[]),(4,some 8,[])] [?v10_3,?v10_4] 0 (by kernel_rfl) (.of rfl rfl rfl k.out) ?l10 ?h10;case l10=>
         intro w' hSw;obtain⟨_,_,_,_,_,_,hSw⟩:=hSw;iterate 2
          refine lkw rfl rfl (by rfl) ?_ ?_
          ·go_simp<;>with_reducible rfl
          try simp only[Act.put,tS,t0,t1]
         trivial
        simp only[zw,zk,Act.put,tS,t0,t1];refine zv (by kernel_rfl) ?_ _;clear HPer;go_wp2_with fail;have hB:=hI'.out.back hszn hX' k.out K1.out;have hD2:=(k.out.only.block _ hsn (fun⟨x,hx,e⟩=>(hI'.out.1 x hx).1 e)).trans hD'.out;obtain⟨X9,k9⟩:=hB.fin;exact jp hD2 (yg rfl _ rfl rfl rfl (xE k9 1 rfl 50 rfl rfl)) ⟨v8,l2,a,0,rfl,k9.out.2,HL2.out,hlen2,.inl rfl,k9.end⟩
     ·have hkz: ¬((kk:Int)<l.length):=by omega
      go_upto_region 11 with fail
      have HPer:=Lib.hid k.out.per;refine zt k 15 15 (by kernel_rfl) rfl ?_;clear k;intro W k;refine zq [(0,some 32,[]),(1,some 33,[]),(2,some 34,[]),(3,some 35,[]),(4,some 36,[]),(5,some 37,[]),(6,some 38,[]),(7,some 39,[]),(8,some 40,[]),(9,some 41,[]),(10,some 42,[]),(11,some 43,[]),(12,some 44,[]),(13,some 45,[]),(14,some 46,[])] [?v3_0,?v3_1,?v3_2,?v3_3,?v3_4,?v3_5,undef,undef,undef,undef,undef,undef,undef,undef,?v3_14] 0 (by kernel_rfl) ⟨_,k.out⟩ ?l3 ?h3;case l3=>
       intro w' hSw;iterate 6
        refine lkw rfl rfl (by rfl) ?_ ?_
        ·first|((with_reducible refine yw ?_);first|exact hSw.l1 rfl rfl .a3 (by rfl))|(go_simp<;>with_reducible rfl)
        try simp only[Act.put,tS,t0,t1]
       iterate 8
        refine lks rfl rfl (by rfl) ?_;try simp only[Act.put,tS,t0,t1]
       refine lkw rfl rfl (by rfl) ?_ ?_
       ·go_simp<;>with_reducible rfl
       try simp only[Act.put,tS,t0,t1]
       trivial
      simp only[zw,zk,Act.put,tS,t0,t1];refine zv (by kernel_rfl) ?_ _;clear HPer;clear hkl hkz
      go_upto_region 13 with fail
      have HPer:=Lib.hid k.out.per;refine zt k 11 12 (by kernel_rfl) rfl ?_;clear k;intro W k;refine zq [(0,some 49,[11]),(1,some 50,[11]),(3,some 52,[11]),(4,some 53,[11]),(5,some 54,[11]),(6,some 55,[11]),(7,some 56,[11])] [?v11_0,?v11_1,?v11_3,?v11_4,?v11_5,?v11_6,?v11_7] 5 (by kernel_rfl) ⟨_,k.out⟩ ?l11 ?h11;case l11=>
       intro w' hSw;iterate 7
        refine lkw rfl rfl (by rfl) ?_ ?_
        ·first|((with_reducible refine yw ?_);first|exact hSw.l1 rfl rfl (by repeat constructor) (by rfl))|(go_simp<;>with_reducible rfl)
        try simp only[Act.put,tS,t0,t1]
       trivial
      simp only[zw,zk,Act.put,tS,t0,t1];refine yI (i:=2) (j:=8) (fuel:=4) (by kernel_rfl) rfl rfl ?_ ?_
      ·go_wp2_with fail
       have K0:=k;refine(qh _ l _ _ k.out.fact.1 (fun q hq=>(HL.out q hq).one) (by omega)).mono ?_;rintro e W6 ⟨v6,rfl,hown6,hb6⟩;replace k:=zj (k.out.call hb6);go_wp2_with fail;refine zd (yz ⟨_,k.out⟩) ?_;refine w1 8 3 (by kernel_rfl) rfl ?_;go_wp2_with((with_reducible refine qY ?_);refine yQ jl rfl rfl rfl rfl rfl (by decide) (by decide) ?_;intro W7 hk7 hb7 hz7);replace k:=zj (k.out.call hb7);refine zd (yz ⟨_,k.out⟩) ?_;refine w1 9 2 (by kernel_rfl) rfl ?_;go_wp2_with fail;have hown7:=own_only hown6 (Only.of_below (M:=fun _=>False) hb7) (fun _ _ h=>h);have hsz6:=hb6.size;have hsz7:=hb7.size;refine(jX W.heap.size v6 l kk _ #[Value.int .i64 a,Value.int .i64 64,Value.int .i64 who] W7 hown7 (fun q hq=>(HL.out q hq).size) (fun q hq=>(HL.out q hq).one) hk hk7 rfl (zm rfl) (fun e=>by have:=(jG hown6 e).2;omega) (by omega) (by omega)).mono ?_;rintro e W8 ⟨v8,rfl,hown8,hb8⟩;have htot:=hb6.trans ((hb7.mono hsz6).trans hb8);have hv8:=xu hown8;have HL2:Hid (∀q∈l.take kk++ [#[Value.int .i64 a,Value.int .i64 64,Value.int .i64 who]]++l.drop kk,Ty vv q):=jm HL.out ⟨yY ha0 ha1,yY (by decide) (by decide),yY hw0 hw1,trivial⟩;have hlen2:(l.take kk++ [#[Value.int .i64 a,Value.int .i64 64,Value.int .i64 who]]++l.drop kk).length<=l.length+1:=by simp;omega
       have hf:=zV hown8 (fun q hq=>(HL2.out q hq).size) K0.out.lt;replace k:=zj (K0.out.call htot);clear K0 hown8 hb8 htot;generalize l.take kk++ [#[Value.int .i64 a,Value.int .i64 64,Value.int .i64 who]]++l.drop kk=l2 at hf HL2 hlen2;go_wp2_with fail;refine zd (yz ⟨_,k.out⟩) ?_;refine zq [(10,some 59,[11])] [?v12_10] 1 (by kernel_rfl) ⟨_,k.out⟩ ?l12 ?h12;case l12=>
        intro w' hSw;refine lkw rfl rfl (by rfl) ?_ ?_
        ·go_simp<;>with_reducible rfl
        try simp only[Act.put,tS,t0,t1]
        trivial
       simp only[zw,zk,Act.put,tS,t0,t1];refine w1 11 0 (by kernel_rfl) rfl ?_;replace k:=zj (k.out.add hf (zb _ _ _));clear hf;go_wp2_with((with_reducible refine zx ?_);refine so1 k rfl rfl rfl (by assumption) .a3 (by rfl) rfl ?_;clear k;intro W k);refine zd (zJ rfl) ?_;refine zv (by kernel_rfl) ?_ _;clear HPer;replace k:Hid (St _ _ _ [(b3,#[.int .i64 a],3),(b50,#[.int .i64 0,.slice none 0 0],50),(c3,#[.int .i64 64],3),(c50,#[.int .i64 hsz,v8],50)] _ _ _):=k
       go_upto_region 14 with fail
       have HPer:=Lib.hid k.out.per;refine xj k 1 2 rfl rfl 5 5 (by kernel_rfl) rfl ?_;clear k;intro W k;refine zq [(0,some 60,[]),(1,some 61,[])] [?v13_0,?v13_1] 3 (by kernel_rfl) (.of rfl rfl rfl k.out) ?l13 ?h13;case l13=>
        intro w' hSw;obtain⟨_,_,_,_,_,_,hSw⟩:=hSw;iterate 2
         refine lkw rfl rfl (by rfl) ?_ ?_
         ·first|((with_reducible refine yw ?_);first|exact hSw.l1 rfl rfl (by repeat constructor) (by rfl)|exact hSw.la rfl rfl .a3 (by rfl) (by rfl)|exact hSw.lp rfl rfl (by repeat constructor) (D:= #[_,_]) (by rfl) (by rfl) (by rfl))|(go_simp<;>with_reducible rfl)
         try simp only[Act.put,tS,t0,t1]
        trivial
       simp only[zw,zk,Act.put,tS,t0,t1];refine w1 2 2 (by kernel_rfl) rfl ?_;go_wp2_with((with_reducible refine zx ?_);refine soa k rfl rfl rfl .a1 rfl rfl (yU rfl hv8) ?_;clear k;intro W k);refine zd (yz (.of rfl rfl rfl k.out)) ?_;refine zq [(3,some 7,[]),(4,some 8,[])] [?v14_3,?v14_4] 0 (by kernel_rfl) (.of rfl rfl rfl k.out) ?l14 ?h14;case l14=>
        intro w' hSw;obtain⟨_,_,_,_,_,_,hSw⟩:=hSw;iterate 2
         refine lkw rfl rfl (by rfl) ?_ ?_
         ·go_simp<;>with_reducible rfl
         try simp only[Act.put,tS,t0,t1]
        trivial
       simp only[zw,zk,Act.put,tS,t0,t1];refine zv (by kernel_rfl) ?_ _;clear HPer;go_wp2_with fail;have hB:=hI'.out.back hszn hX' k.out K1.out;have hD2:=(k.out.only.block _ hsn (fun⟨x,hx,e⟩=>(hI'.out.1 x hx).1 e)).trans hD'.out;obtain⟨X9,k9⟩:=hB.fin;exact jp hD2 (yg rfl _ rfl rfl rfl (xE k9 1 rfl 50 rfl rfl)) ⟨v8,l2,a,0,rfl,k9.out.2,HL2.out,hlen2,.inl rfl,k9.end⟩
      ·have K0:=k
       go_wp2_with((with_reducible refine qY ?_);refine yQ jl rfl rfl rfl rfl rfl (by decide) (by decide) ?_;intro W7 hk7 hb7 hz7);replace k:=zj (k.out.call hb7);refine zd (yz ⟨_,k.out⟩) ?_;refine w1 2 3 (by kernel_rfl) rfl ?_;go_wp2_with fail;refine(qh _ l _ _ k.out.fact.1 (fun q hq=>(HL.out q hq).one) (by omega)).mono ?_;rintro e W6 ⟨v6,rfl,hown6,hb6⟩;replace k:=zj (k.out.call hb6);have hk7':=hk7.below hb6;go_wp2_with fail;refine zd (yz ⟨_,k.out⟩) ?_;refine w1 9 2 (by kernel_rfl) rfl ?_;go_wp2_with fail;have hsz6:=hb6.size;have hsz7:=hb7.size;refine(jX W7.heap.size v6 l kk _ #[Value.int .i64 a,Value.int .i64 64,Value.int .i64 who] W6 hown6 (fun q hq=>(HL.out q hq).size) (fun q hq=>(HL.out q hq).one) hk hk7' rfl (zm rfl) (fun e=>by have:=(jG hown6 e).1;omega) (by omega) (by omega)).mono ?_;rintro e W8 ⟨v8,rfl,hown8,hb8⟩;have htot:=hb7.trans ((hb6.mono hsz7).trans (hb8.mono hsz7));replace hown8:=obase hown8 hsz7;have hv8:=xu hown8;have HL2:Hid (∀q∈l.take kk++ [#[Value.int .i64 a,Value.int .i64 64,Value.int .i64 who]]++l.drop kk,Ty vv q):=jm HL.out ⟨yY ha0 ha1,yY (by decide) (by decide),yY hw0 hw1,trivial⟩;have hlen2:(l.take kk++ [#[Value.int .i64 a,Value.int .i64 64,Value.int .i64 who]]++l.drop kk).length<=l.length+1:=by simp;omega
       have hf:=zV hown8 (fun q hq=>(HL2.out q hq).size) K0.out.lt;replace k:=zj (K0.out.call htot);clear K0 hown8 hb8 htot;generalize l.take kk++ [#[Value.int .i64 a,Value.int .i64 64,Value.int .i64 who]]++l.drop kk=l2 at hf HL2 hlen2;go_wp2_with fail;refine zd (yz ⟨_,k.out⟩) ?_;refine zq [(10,some 59,[11])] [?v15_10] 1 (by kernel_rfl) ⟨_,k.out⟩ ?l15 ?h15;case l15=>
        intro w' hSw;refine lkw rfl rfl (by rfl) ?_ ?_
        ·go_simp<;>with_reducible rfl
        try simp only[Act.put,tS,t0,t1]
        trivial
       simp only[zw,zk,Act.put,tS,t0,t1];refine w1 11 0 (by kernel_rfl) rfl ?_;replace k:=zj (k.out.add hf (zb _ _ _));clear hf;go_wp2_with((with_reducible refine zx ?_);refine so1 k rfl rfl rfl (by assumption) .a3 (by rfl) rfl ?_;clear k;intro W k);refine zd (zJ rfl) ?_;refine zv (by kernel_rfl) ?_ _;clear HPer;replace k:Hid (St _ _ _ [(b3,#[.int .i64 a],3),(b50,#[.int .i64 0,.slice none 0 0],50),(c3,#[.int .i64 64],3),(c50,#[.int .i64 hsz,v8],50)] _ _ _):=k
       go_upto_region 14 with fail
       have HPer:=Lib.hid k.out.per;refine xj k 1 2 rfl rfl 5 5 (by kernel_rfl) rfl ?_;clear k;intro W k;refine zq [(0,some 60,[]),(1,some 61,[])] [?v16_0,?v16_1] 3 (by kernel_rfl) (.of rfl rfl rfl k.out) ?l16 ?h16;case l16=>
        intro w' hSw;obtain⟨_,_,_,_,_,_,hSw⟩:=hSw;iterate 2
         refine lkw rfl rfl (by rfl) ?_ ?_
         ·first|((with_reducible refine yw ?_);first|exact hSw.l1 rfl rfl (by repeat constructor) (by rfl)|exact hSw.la rfl rfl .a3 (by rfl) (by rfl)|exact hSw.lp rfl rfl (by repeat constructor) (D:= #[_,_]) (by rfl) (by rfl) (by rfl))|(go_simp<;>with_reducible rfl)
         try simp only[Act.put,tS,t0,t1]
        trivial
       simp only[zw,zk,Act.put,tS,t0,t1];refine w1 2 2 (by kernel_rfl) rfl ?_;go_wp2_with((with_reducible refine zx ?_);refine soa k rfl rfl rfl .a1 rfl rfl (yU rfl hv8) ?_;clear k;intro W k);refine zd (yz (.of rfl rfl rfl k.out)) ?_;refine zq [(3,some 7,[]),(4,some 8,[])] [?v17_3,?v17_4] 0 (by kernel_rfl) (.of rfl rfl rfl k.out) ?l17 ?h17;case l17=>
        intro w' hSw;obtain⟨_,_,_,_,_,_,hSw⟩:=hSw;iterate 2
         refine lkw rfl rfl (by rfl) ?_ ?_
         ·go_simp<;>with_reducible rfl
         try simp only[Act.put,tS,t0,t1]
        trivial
       simp only[zw,zk,Act.put,tS,t0,t1];refine zv (by kernel_rfl) ?_ _;clear HPer;go_wp2_with fail;have hB:=hI'.out.back hszn hX' k.out K1.out;have hD2:=(k.out.only.block _ hsn (fun⟨x,hx,e⟩=>(hI'.out.1 x hx).1 e)).trans hD'.out;obtain⟨X9,k9⟩:=hB.fin;exact jp hD2 (yg rfl _ rfl rfl rfl (xE k9 1 rfl 50 rfl rfl)) ⟨v8,l2,a,0,rfl,k9.out.2,HL2.out,hlen2,.inl rfl,k9.end⟩
  case hstop=>
   rintro c' W ⟨rfl,a,har,hI⟩ hD;obtain⟨X,hX',k1⟩:=hI.open;have hsn:W1.heap.size<W.heap.size:=(Array.getElem?_eq_some_iff.1 hD).1;have hszn:W1.heap.size+1<W.heap.size:=k1.lt _ hX'.2;have hI':=Lib.hid hI;have hD':=Lib.hid hD;have K1:=Lib.hid k1;clear k hI hD;have k:=zj k1.again;obtain⟨ha0,ha1⟩:=har;by_cases ha:a<0
   ·have da:decide (a<0)=true:=decide_eq_true ha
    go_wp2_with(first|((with_reducible refine zz ?_);first|(refine ld1 k rfl rfl (by repeat constructor) (by rfl) ?_)|(refine lda k rfl rfl .a3 (by rfl) ?_))|((with_reducible refine zx ?_);refine soa k rfl rfl rfl .a1 (by rfl) (by rfl) (zm rfl) ?_;clear k;intro W k));have hB:=hI'.out.back hszn hX' k.out K1.out;have hD2:=(k.out.only.block _ hsn (fun⟨x,hx,e⟩=>(hI'.out.1 x hx).1 e)).trans hD'.out;obtain⟨X9,k9⟩:=hB.fin;exact jp hD2 (yg rfl _ rfl rfl rfl (xE k9 1 rfl 50 rfl rfl)) ⟨_,l,0,5,rfl,k9.out.1,HL.out,by omega,.inr (.inr rfl),k9.end⟩
   ·have da:decide (a<0)=false:=decide_eq_false ha
    go_wp2_with((with_reducible refine zz ?_);refine ld1 k rfl rfl .a0 (by rfl) ?_)
    go_loopw [11] (fun i W'=> ∃kk:Nat,kk<=l.length/\i= .int .i64 kk/\Hid (Stay (fun b=> ∃x∈ [(b3,#[Value.int .i64 a],3),(b50,#[Value.int .i64 0,Value.slice none 0 0],50),(c3,#[Value.int .i64 64],3),(c50,#[Value.int .i64 hsz,Value.slice A l.length c],50)],x.1=b) X W [(b3,#[Value.int .i64 a],3),(b50,#[Value.int .i64 0,Value.slice none 0 0],50),(c3,#[Value.int .i64 64],3),(c50,#[Value.int .i64 hsz,Value.slice A l.length c],50)] (HoG (.slice A l.length c) l hsz bt) W')) (fun i _=>l.length-(intOf i).toNat)
    case atStart=>exact⟨0,Nat.zero_le _,rfl,zj ⟨_,k.out⟩⟩
    case round=>
     obtain⟨kk,hk,rfl,hS⟩:=hrel;obtain⟨X4,k4⟩:=hS.out;clear k hS;have k:=zj k4;clear k4;by_cases hkl:kk<l.length
     ·obtain⟨row,hrow⟩: ∃row,l[kk]? =some row:=⟨_,List.getElem?_eq_getElem hkl⟩
      have hsl:=k.out.fact.1;obtain⟨bp,op,rfl,_⟩:=hsl.row hrow (by decide);clear hsl;obtain⟨xa,xb,xc,rfl⟩:=span_lit (HL.out _ (List.mem_of_getElem? hrow));have hkz:(kk:Int)<l.length:=by omega
      have hwk:IntKind.i64.wrap (kk:Int)=kk:=xg (by omega) (by omega);by_cases hxa:xa<a
      ·go_upto_region 11 with fail
       have HPer:=Lib.hid k.out.per;refine zt k 15 15 (by kernel_rfl) rfl ?_;clear k;intro W k;refine zq [(0,some 32,[]),(1,some 33,[]),(2,some 34,[]),(3,some 35,[]),(4,some 36,[]),(5,some 37,[]),(6,some 38,[]),(7,some 39,[]),(8,some 40,[]),(9,some 41,[]),(10,some 42,[]),(11,some 43,[]),(12,some 44,[]),(13,some 45,[]),(14,some 46,[])] [?v18_0,?v18_1,?v18_2,?v18_3,?v18_4,?v18_5,?v18_6,?v18_7,?v18_8,?v18_9,?v18_10,?v18_11,?v18_12,?v18_13,?v18_14] 0 (by kernel_rfl) ⟨_,k.out⟩ ?l18 ?h18;case l18=>
        intro w' hSw;iterate 11
         refine lkw rfl rfl (by rfl) ?_ ?_
         ·first|((with_reducible refine yw ?_);first|exact hSw.l1 rfl rfl .a3 (by rfl))|(go_simp<;>with_reducible rfl)
         try simp only[Act.put,tS,t0,t1]
        refine lkw rfl rfl (by rfl) ?_ ?_
        ·refine yG rfl ?_
         obtain⟨X',hX'⟩:=hSw.get;exact ql hX'.1 hrow (by decide) (j:=0) rfl (Tryz.isAgg3 _)
        try simp only[Act.put,tS,t0,t1]
        iterate 3
         refine lkw rfl rfl (by rfl) ?_ ?_
         ·first|((with_reducible refine yw ?_);first|exact hSw.l1 rfl rfl .a0 (by rfl))|(go_simp<;>with_reducible rfl)
         try simp only[Act.put,tS,t0,t1]
        trivial
       simp only[zw,zk,Act.put,tS,t0,t1];refine zv (by kernel_rfl) ?_ _;clear HPer;have hwk1:IntKind.i64.wrap ((kk:Int)+1)=((kk+1:Nat):Int):=xg (by omega) (by omega);go_wp2_with fail
       go_roundw
       case rel=>exact⟨kk+1,hkl,rfl,zj ⟨_,k.out⟩⟩
       case measure=>simp[intOf];omega
      ·go_upto_region 11 with fail
       have HPer:=Lib.hid k.out.per;refine zt k 15 15 (by kernel_rfl) rfl ?_;clear k;intro W k;refine zq [(0,some 32,[]),(1,some 33,[]),(2,some 34,[]),(3,some 35,[]),(4,some 36,[]),(5,some 37,[]),(6,some 38,[]),(7,some 39,[]),(8,some 40,[]),(9,some 41,[]),(10,some 42,[]),(11,some 43,[]),(12,some 44,[]),(13,some 45,[]),(14,some 46,[])] [?v19_0,?v19_1,?v19_2,?v19_3,?v19_4,?v19_5,?v19_6,?v19_7,?v19_8,?v19_9,?v19_10,?v19_11,?v19_12,?v19_13,?v19_14] 0 (by kernel_rfl) ⟨_,k.out⟩ ?l19 ?h19;case l19=>
        intro w' hSw;iterate 11
         refine lkw rfl rfl (by rfl) ?_ ?_
         ·first|((with_reducible refine yw ?_);first|exact hSw.l1 rfl rfl .a3 (by rfl))|(go_simp<;>with_reducible rfl)
         try simp only[Act.put,tS,t0,t1]
        refine lkw rfl rfl (by rfl) ?_ ?_
        ·refine yG rfl ?_
         obtain⟨X',hX'⟩:=hSw.get;exact ql hX'.1 hrow (by decide) (j:=0) rfl (Tryz.isAgg3 _)
        try simp only[Act.put,tS,t0,t1]
        iterate 3
         refine lkw rfl rfl (by rfl) ?_ ?_
         ·first|((with_reducible refine yw ?_);first|exact hSw.l1 rfl rfl .a0 (by rfl))|(go_simp<;>with_reducible rfl)
         try simp only[Act.put,tS,t0,t1]
        trivial
       simp only[zw,zk,Act.put,tS,t0,t1];refine zv (by kernel_rfl) ?_ _;clear HPer;clear hxa hrow hwk hkl
       go_upto_region 13 with fail
       have HPer:=Lib.hid k.out.per;refine zt k 11 12 (by kernel_rfl) rfl ?_;clear k;intro W k;refine zq [(0,some 49,[11]),(1,some 50,[11]),(3,some 52,[11]),(4,some 53,[11]),(5,some 54,[11]),(6,some 55,[11]),(7,some 56,[11])] [?v21_0,?v21_1,?v21_3,?v21_4,?v21_5,?v21_6,?v21_7] 5 (by kernel_rfl) ⟨_,k.out⟩ ?l21 ?h21;case l21=>
        intro w' hSw;iterate 7
         refine lkw rfl rfl (by rfl) ?_ ?_
         ·first|((with_reducible refine yw ?_);first|exact hSw.l1 rfl rfl (by repeat constructor) (by rfl))|(go_simp<;>with_reducible rfl)
         try simp only[Act.put,tS,t0,t1]
        trivial
       simp only[zw,zk,Act.put,tS,t0,t1];refine yI (i:=2) (j:=8) (fuel:=4) (by kernel_rfl) rfl rfl ?_ ?_
       ·go_wp2_with fail
        have K0:=k;refine(qh _ l _ _ k.out.fact.1 (fun q hq=>(HL.out q hq).one) (by omega)).mono ?_;rintro e W6 ⟨v6,rfl,hown6,hb6⟩;replace k:=zj (k.out.call hb6);go_wp2_with fail;refine zd (yz ⟨_,k.out⟩) ?_;refine w1 8 3 (by kernel_rfl) rfl ?_;go_wp2_with((with_reducible refine qY ?_);refine yQ jl rfl rfl rfl rfl rfl (by decide) (by decide) ?_;intro W7 hk7 hb7 hz7);replace k:=zj (k.out.call hb7);refine zd (yz ⟨_,k.out⟩) ?_;refine w1 9 2 (by kernel_rfl) rfl ?_;go_wp2_with fail;have hown7:=own_only hown6 (Only.of_below (M:=fun _=>False) hb7) (fun _ _ h=>h);have hsz6:=hb6.size;have hsz7:=hb7.size;refine(jX W.heap.size v6 l kk _ #[Value.int .i64 a,Value.int .i64 64,Value.int .i64 who] W7 hown7 (fun q hq=>(HL.out q hq).size) (fun q hq=>(HL.out q hq).one) hk hk7 rfl (zm rfl) (fun e=>by have:=(jG hown6 e).2;omega) (by omega) (by omega)).mono ?_;rintro e W8 ⟨v8,rfl,hown8,hb8⟩;have htot:=hb6.trans ((hb7.mono hsz6).trans hb8);have hv8:=xu hown8;have HL2:Hid (∀q∈l.take kk++ [#[Value.int .i64 a,Value.int .i64 64,Value.int .i64 who]]++l.drop kk,Ty vv q):=jm HL.out ⟨yY ha0 ha1,yY (by decide) (by decide),yY hw0 hw1,trivial⟩;have hlen2:(l.take kk++ [#[Value.int .i64 a,Value.int .i64 64,Value.int .i64 who]]++l.drop kk).length<=l.length+1:=by simp;omega
        have hf:=zV hown8 (fun q hq=>(HL2.out q hq).size) K0.out.lt;replace k:=zj (K0.out.call htot);clear K0 hown8 hb8 htot;generalize l.take kk++ [#[Value.int .i64 a,Value.int .i64 64,Value.int .i64 who]]++l.drop kk=l2 at hf HL2 hlen2;go_wp2_with fail;refine zd (yz ⟨_,k.out⟩) ?_;refine zq [(10,some 59,[11])] [?v22_10] 1 (by kernel_rfl) ⟨_,k.out⟩ ?l22 ?h22;case l22=>
         intro w' hSw;refine lkw rfl rfl (by rfl) ?_ ?_
         ·go_simp<;>with_reducible rfl
         try simp only[Act.put,tS,t0,t1]
         trivial
        simp only[zw,zk,Act.put,tS,t0,t1];refine w1 11 0 (by kernel_rfl) rfl ?_;replace k:=zj (k.out.add hf (zb _ _ _));clear hf;go_wp2_with((with_reducible refine zx ?_);refine so1 k rfl rfl rfl (by assumption) .a3 (by rfl) rfl ?_;clear k;intro W k);refine zd (zJ rfl) ?_;refine zv (by kernel_rfl) ?_ _;clear HPer;replace k:Hid (St _ _ _ [(b3,#[.int .i64 a],3),(b50,#[.int .i64 0,.slice none 0 0],50),(c3,#[.int .i64 64],3),(c50,#[.int .i64 hsz,v8],50)] _ _ _):=k
        go_upto_region 14 with fail
        have HPer:=Lib.hid k.out.per;refine xj k 1 2 rfl rfl 5 5 (by kernel_rfl) rfl ?_;clear k;intro W k;refine zq [(0,some 60,[]),(1,some 61,[])] [?v23_0,?v23_1] 3 (by kernel_rfl) (.of rfl rfl rfl k.out) ?l23 ?h23;case l23=>
         intro w' hSw;obtain⟨_,_,_,_,_,_,hSw⟩:=hSw;iterate 2
          refine lkw rfl rfl (by rfl) ?_ ?_
          ·first|((with_reducible refine yw ?_);first|exact hSw.l1 rfl rfl (by repeat constructor) (by rfl)|exact hSw.la rfl rfl .a3 (by rfl) (by rfl)|exact hSw.lp rfl rfl (by repeat constructor) (D:= #[_,_]) (by rfl) (by rfl) (by rfl))|(go_simp<;>with_reducible rfl)
          try simp only[Act.put,tS,t0,t1]
         trivial
        simp only[zw,zk,Act.put,tS,t0,t1];refine w1 2 2 (by kernel_rfl) rfl ?_;go_wp2_with((with_reducible refine zx ?_);refine soa k rfl rfl rfl .a1 rfl rfl (yU rfl hv8) ?_;clear k;intro W k);refine zd (yz (.of rfl rfl rfl k.out)) ?_;refine zq [(3,some 7,[]),(4,some 8,[])] [?v24_3,?v24_4] 0 (by kernel_rfl) (.of rfl rfl rfl k.out) ?l24 ?h24;case l24=>
         intro w' hSw;obtain⟨_,_,_,_,_,_,hSw⟩:=hSw;iterate 2
          refine lkw rfl rfl (by rfl) ?_ ?_
          ·go_simp<;>with_reducible rfl
          try simp only[Act.put,tS,t0,t1]
         trivial
        simp only[zw,zk,Act.put,tS,t0,t1];refine zv (by kernel_rfl) ?_ _;clear HPer;go_wp2_with fail;have hB:=hI'.out.back hszn hX' k.out K1.out;have hD2:=(k.out.only.block _ hsn (fun⟨x,hx,e⟩=>(hI'.out.1 x hx).1 e)).trans hD'.out;obtain⟨X9,k9⟩:=hB.fin;exact jp hD2 (yg rfl _ rfl rfl rfl (xE k9 1 rfl 50 rfl rfl)) ⟨v8,l2,a,0,rfl,k9.out.2,HL2.out,hlen2,.inl rfl,k9.end⟩
       ·have K0:=k
        go_wp2_with((with_reducible refine qY ?_);refine yQ jl rfl rfl rfl rfl rfl (by decide) (by decide) ?_;intro W7 hk7 hb7 hz7);replace k:=zj (k.out.call hb7);refine zd (yz ⟨_,k.out⟩) ?_;refine w1 2 3 (by kernel_rfl) rfl ?_;go_wp2_with fail;refine(qh _ l _ _ k.out.fact.1 (fun q hq=>(HL.out q hq).one) (by omega)).mono ?_;rintro e W6 ⟨v6,rfl,hown6,hb6⟩;replace k:=zj (k.out.call hb6);have hk7':=hk7.below hb6;go_wp2_with fail;refine zd (yz ⟨_,k.out⟩) ?_;refine w1 9 2 (by kernel_rfl) rfl ?_;go_wp2_with fail;have hsz6:=hb6.size;have hsz7:=hb7.size;refine(jX W7.heap.size v6 l kk _ #[Value.int .i64 a,Value.int .i64 64,Value.int .i64 who] W6 hown6 (fun q hq=>(HL.out q hq).size) (fun q hq=>(HL.out q hq).one) hk hk7' rfl (zm rfl) (fun e=>by have:=(jG hown6 e).1;omega) (by omega) (by omega)).mono ?_;rintro e W8 ⟨v8,rfl,hown8,hb8⟩;have htot:=hb7.trans ((hb6.mono hsz7).trans (hb8.mono hsz7));replace hown8:=obase hown8 hsz7;have hv8:=xu hown8;have HL2:Hid (∀q∈l.take kk++ [#[Value.int .i64 a,Value.int .i64 64,Value.int .i64 who]]++l.drop kk,Ty vv q):=jm HL.out ⟨yY ha0 ha1,yY (by decide) (by decide),yY hw0 hw1,trivial⟩;have hlen2:(l.take kk++ [#[Value.int .i64 a,Value.int .i64 64,Value.int .i64 who]]++l.drop kk).length<=l.length+1:=by simp;omega
        have hf:=zV hown8 (fun q hq=>(HL2.out q hq).size) K0.out.lt;replace k:=zj (K0.out.call htot);clear K0 hown8 hb8 htot;generalize l.take kk++ [#[Value.int .i64 a,Value.int .i64 64,Value.int .i64 who]]++l.drop kk=l2 at hf HL2 hlen2;go_wp2_with fail;refine zd (yz ⟨_,k.out⟩) ?_;refine zq [(10,some 59,[11])] [?v25_10] 1 (by kernel_rfl) ⟨_,k.out⟩ ?l25 ?h25;case l25=>
         intro w' hSw;refine lkw rfl rfl (by rfl) ?_ ?_
         ·go_simp<;>with_reducible rfl
         try simp only[Act.put,tS,t0,t1]
         trivial
        simp only[zw,zk,Act.put,tS,t0,t1];refine w1 11 0 (by kernel_rfl) rfl ?_;replace k:=zj (k.out.add hf (zb _ _ _));clear hf;go_wp2_with((with_reducible refine zx ?_);refine so1 k rfl rfl rfl (by assumption) .a3 (by rfl) rfl ?_;clear k;intro W k);refine zd (zJ rfl) ?_;refine zv (by kernel_rfl) ?_ _;clear HPer;replace k:Hid (St _ _ _ [(b3,#[.int .i64 a],3),(b50,#[.int .i64 0,.slice none 0 0],50),(c3,#[.int .i64 64],3),(c50,#[.int .i64 hsz,v8],50)] _ _ _):=k
        go_upto_region 14 with fail
        have HPer:=Lib.hid k.out.per;refine xj k 1 2 rfl rfl 5 5 (by kernel_rfl) rfl ?_;clear k;intro W k;refine zq [(0,some 60,[]),(1,some 61,[])] [?v26_0,?v26_1] 3 (by kernel_rfl) (.of rfl rfl rfl k.out) ?l26 ?h26;case l26=>
         intro w' hSw;obtain⟨_,_,_,_,_,_,hSw⟩:=hSw;iterate 2
          refine lkw rfl rfl (by rfl) ?_ ?_
          ·first|((with_reducible refine yw ?_);first|exact hSw.l1 rfl rfl (by repeat constructor) (by rfl)|exact hSw.la rfl rfl .a3 (by rfl) (by rfl)|exact hSw.lp rfl rfl (by repeat constructor) (D:= #[_,_]) (by rfl) (by rfl) (by rfl))|(go_simp<;>with_reducible rfl)
          try simp only[Act.put,tS,t0,t1]
         trivial
        simp only[zw,zk,Act.put,tS,t0,t1];refine w1 2 2 (by kernel_rfl) rfl ?_;go_wp2_with((with_reducible refine zx ?_);refine soa k rfl rfl rfl .a1 rfl rfl (yU rfl hv8) ?_;clear k;intro W k);refine zd (yz (.of rfl rfl rfl k.out)) ?_;refine zq [(3,some 7,[]),(4,some 8,[])] [?v27_3,?v27_4] 0 (by kernel_rfl) (.of rfl rfl rfl k.out) ?l27 ?h27;case l27=>
         intro w' hSw;obtain⟨_,_,_,_,_,_,hSw⟩:=hSw;iterate 2
          refine lkw rfl rfl (by rfl) ?_ ?_
          ·go_simp<;>with_reducible rfl
          try simp only[Act.put,tS,t0,t1]
         trivial
        simp only[zw,zk,Act.put,tS,t0,t1];refine zv (by kernel_rfl) ?_ _;clear HPer;go_wp2_with fail;have hB:=hI'.out.back hszn hX' k.out K1.out;have hD2:=(k.out.only.block _ hsn (fun⟨x,hx,e⟩=>(hI'.out.1 x hx).1 e)).trans hD'.out;obtain⟨X9,k9⟩:=hB.fin;exact jp hD2 (yg rfl _ rfl rfl rfl (xE k9 1 rfl 50 rfl rfl)) ⟨v8,l2,a,0,rfl,k9.out.2,HL2.out,hlen2,.inl rfl,k9.end⟩
     ·have hkz: ¬((kk:Int)<l.length):=by omega
      go_upto_region 11 with fail
      have HPer:=Lib.hid k.out.per;refine zt k 15 15 (by kernel_rfl) rfl ?_;clear k;intro W k;refine zq [(0,some 32,[]),(1,some 33,[]),(2,some 34,[]),(3,some 35,[]),(4,some 36,[]),(5,some 37,[]),(6,some 38,[]),(7,some 39,[]),(8,some 40,[]),(9,some 41,[]),(10,some 42,[]),(11,some 43,[]),(12,some 44,[]),(13,some 45,[]),(14,some 46,[])] [?v20_0,?v20_1,?v20_2,?v20_3,?v20_4,?v20_5,undef,undef,undef,undef,undef,undef,undef,undef,?v20_14] 0 (by kernel_rfl) ⟨_,k.out⟩ ?l20 ?h20;case l20=>
       intro w' hSw;iterate 6
        refine lkw rfl rfl (by rfl) ?_ ?_
        ·first|((with_reducible refine yw ?_);first|exact hSw.l1 rfl rfl .a3 (by rfl))|(go_simp<;>with_reducible rfl)
        try simp only[Act.put,tS,t0,t1]
       iterate 8
        refine lks rfl rfl (by rfl) ?_;try simp only[Act.put,tS,t0,t1]
       refine lkw rfl rfl (by rfl) ?_ ?_
       ·go_simp<;>with_reducible rfl
       try simp only[Act.put,tS,t0,t1]
       trivial
      simp only[zw,zk,Act.put,tS,t0,t1];refine zv (by kernel_rfl) ?_ _;clear HPer;clear hkl hkz
      go_upto_region 13 with fail
      have HPer:=Lib.hid k.out.per;refine zt k 11 12 (by kernel_rfl) rfl ?_;clear k;intro W k;refine zq [(0,some 49,[11]),(1,some 50,[11]),(3,some 52,[11]),(4,some 53,[11]),(5,some 54,[11]),(6,some 55,[11]),(7,some 56,[11])] [?v28_0,?v28_1,?v28_3,?v28_4,?v28_5,?v28_6,?v28_7] 5 (by kernel_rfl) ⟨_,k.out⟩ ?l28 ?h28;case l28=>
       intro w' hSw;iterate 7
        refine lkw rfl rfl (by rfl) ?_ ?_
        ·first|((with_reducible refine yw ?_);first|exact hSw.l1 rfl rfl (by repeat constructor) (by rfl))|(go_simp<;>with_reducible rfl)
        try simp only[Act.put,tS,t0,t1]
       trivial
      simp only[zw,zk,Act.put,tS,t0,t1];refine yI (i:=2) (j:=8) (fuel:=4) (by kernel_rfl) rfl rfl ?_ ?_
      ·go_wp2_with fail
       have K0:=k;refine(qh _ l _ _ k.out.fact.1 (fun q hq=>(HL.out q hq).one) (by omega)).mono ?_;rintro e W6 ⟨v6,rfl,hown6,hb6⟩;replace k:=zj (k.out.call hb6);go_wp2_with fail;refine zd (yz ⟨_,k.out⟩) ?_;refine w1 8 3 (by kernel_rfl) rfl ?_;go_wp2_with((with_reducible refine qY ?_);refine yQ jl rfl rfl rfl rfl rfl (by decide) (by decide) ?_;intro W7 hk7 hb7 hz7);replace k:=zj (k.out.call hb7);refine zd (yz ⟨_,k.out⟩) ?_;refine w1 9 2 (by kernel_rfl) rfl ?_;go_wp2_with fail;have hown7:=own_only hown6 (Only.of_below (M:=fun _=>False) hb7) (fun _ _ h=>h);have hsz6:=hb6.size;have hsz7:=hb7.size;refine(jX W.heap.size v6 l kk _ #[Value.int .i64 a,Value.int .i64 64,Value.int .i64 who] W7 hown7 (fun q hq=>(HL.out q hq).size) (fun q hq=>(HL.out q hq).one) hk hk7 rfl (zm rfl) (fun e=>by have:=(jG hown6 e).2;omega) (by omega) (by omega)).mono ?_;rintro e W8 ⟨v8,rfl,hown8,hb8⟩;have htot:=hb6.trans ((hb7.mono hsz6).trans hb8);have hv8:=xu hown8;have HL2:Hid (∀q∈l.take kk++ [#[Value.int .i64 a,Value.int .i64 64,Value.int .i64 who]]++l.drop kk,Ty vv q):=jm HL.out ⟨yY ha0 ha1,yY (by decide) (by decide),yY hw0 hw1,trivial⟩;have hlen2:(l.take kk++ [#[Value.int .i64 a,Value.int .i64 64,Value.int .i64 who]]++l.drop kk).length<=l.length+1:=by simp;omega
       have hf:=zV hown8 (fun q hq=>(HL2.out q hq).size) K0.out.lt;replace k:=zj (K0.out.call htot);clear K0 hown8 hb8 htot;generalize l.take kk++ [#[Value.int .i64 a,Value.int .i64 64,Value.int .i64 who]]++l.drop kk=l2 at hf HL2 hlen2;go_wp2_with fail;refine zd (yz ⟨_,k.out⟩) ?_;refine zq [(10,some 59,[11])] [?v29_10] 1 (by kernel_rfl) ⟨_,k.out⟩ ?l29 ?h29;case l29=>
        intro w' hSw;refine lkw rfl rfl (by rfl) ?_ ?_
        ·go_simp<;>with_reducible rfl
        try simp only[Act.put,tS,t0,t1]
        trivial
       simp only[zw,zk,Act.put,tS,t0,t1];refine w1 11 0 (by kernel_rfl) rfl ?_;replace k:=zj (k.out.add hf (zb _ _ _));clear hf;go_wp2_with((with_reducible refine zx ?_);refine so1 k rfl rfl rfl (by assumption) .a3 (by rfl) rfl ?_;clear k;intro W k);refine zd (zJ rfl) ?_;refine zv (by kernel_rfl) ?_ _;clear HPer;replace k:Hid (St _ _ _ [(b3,#[.int .i64 a],3),(b50,#[.int .i64 0,.slice none 0 0],50),(c3,#[.int .i64 64],3),(c50,#[.int .i64 hsz,v8],50)] _ _ _):=k
       go_upto_region 14 with fail
       have HPer:=Lib.hid k.out.per;refine xj k 1 2 rfl rfl 5 5 (by kernel_rfl) rfl ?_;clear k;intro W k;refine zq [(0,some 60,[]),(1,some 61,[])] [?v30_0,?v30_1] 3 (by kernel_rfl) (.of rfl rfl rfl k.out) ?l30 ?h30;case l30=>
        intro w' hSw;obtain⟨_,_,_,_,_,_,hSw⟩:=hSw;iterate 2
         refine lkw rfl rfl (by rfl) ?_ ?_
         ·first|((with_reducible refine yw ?_);first|exact hSw.l1 rfl rfl (by repeat constructor) (by rfl)|exact hSw.la rfl rfl .a3 (by rfl) (by rfl)|exact hSw.lp rfl rfl (by repeat constructor) (D:= #[_,_]) (by rfl) (by rfl) (by rfl))|(go_simp<;>with_reducible rfl)
         try simp only[Act.put,tS,t0,t1]
        trivial
       simp only[zw,zk,Act.put,tS,t0,t1];refine w1 2 2 (by kernel_rfl) rfl ?_;go_wp2_with((with_reducible refine zx ?_);refine soa k rfl rfl rfl .a1 rfl rfl (yU rfl hv8) ?_;clear k;intro W k);refine zd (yz (.of rfl rfl rfl k.out)) ?_;refine zq [(3,some 7,[]),(4,some 8,[])] [?v31_3,?v31_4] 0 (by kernel_rfl) (.of rfl rfl rfl k.out) ?l31 ?h31;case l31=>
        intro w' hSw;obtain⟨_,_,_,_,_,_,hSw⟩:=hSw;iterate 2
         refine lkw rfl rfl (by rfl) ?_ ?_
         ·go_simp<;>with_reducible rfl
         try simp only[Act.put,tS,t0,t1]
        trivial
       simp only[zw,zk,Act.put,tS,t0,t1];refine zv (by kernel_rfl) ?_ _;clear HPer;go_wp2_with fail;have hB:=hI'.out.back hszn hX' k.out K1.out;have hD2:=(k.out.only.block _ hsn (fun⟨x,hx,e⟩=>(hI'.out.1 x hx).1 e)).trans hD'.out;obtain⟨X9,k9⟩:=hB.fin;exact jp hD2 (yg rfl _ rfl rfl rfl (xE k9 1 rfl 50 rfl rfl)) ⟨v8,l2,a,0,rfl,k9.out.2,HL2.out,hlen2,.inl rfl,k9.end⟩
      ·have K0:=k
       go_wp2_with((with_reducible refine qY ?_);refine yQ jl rfl rfl rfl rfl rfl (by decide) (by decide) ?_;intro W7 hk7 hb7 hz7);replace k:=zj (k.out.call hb7);refine zd (yz ⟨_,k.out⟩) ?_;refine w1 2 3 (by kernel_rfl) rfl ?_;go_wp2_with fail;refine(qh _ l _ _ k.out.fact.1 (fun q hq=>(HL.out q hq).one) (by omega)).mono ?_;rintro e W6 ⟨v6,rfl,hown6,hb6⟩;replace k:=zj (k.out.call hb6);have hk7':=hk7.below hb6;go_wp2_with fail;refine zd (yz ⟨_,k.out⟩) ?_;refine w1 9 2 (by kernel_rfl) rfl ?_;go_wp2_with fail;have hsz6:=hb6.size;have hsz7:=hb7.size;refine(jX W7.heap.size v6 l kk _ #[Value.int .i64 a,Value.int .i64 64,Value.int .i64 who] W6 hown6 (fun q hq=>(HL.out q hq).size) (fun q hq=>(HL.out q hq).one) hk hk7' rfl (zm rfl) (fun e=>by have:=(jG hown6 e).1;omega) (by omega) (by omega)).mono ?_;rintro e W8 ⟨v8,rfl,hown8,hb8⟩;have htot:=hb7.trans ((hb6.mono hsz7).trans (hb8.mono hsz7));replace hown8:=obase hown8 hsz7;have hv8:=xu hown8;have HL2:Hid (∀q∈l.take kk++ [#[Value.int .i64 a,Value.int .i64 64,Value.int .i64 who]]++l.drop kk,Ty vv q):=jm HL.out ⟨yY ha0 ha1,yY (by decide) (by decide),yY hw0 hw1,trivial⟩;have hlen2:(l.take kk++ [#[Value.int .i64 a,Value.int .i64 64,Value.int .i64 who]]++l.drop kk).length<=l.length+1:=by simp;omega
       have hf:=zV hown8 (fun q hq=>(HL2.out q hq).size) K0.out.lt;replace k:=zj (K0.out.call htot);clear K0 hown8 hb8 htot;generalize l.take kk++ [#[Value.int .i64 a,Value.int .i64 64,Value.int .i64 who]]++l.drop kk=l2 at hf HL2 hlen2;go_wp2_with fail;refine zd (yz ⟨_,k.out⟩) ?_;refine zq [(10,some 59,[11])] [?v32_10] 1 (by kernel_rfl) ⟨_,k.out⟩ ?l32 ?h32;case l32=>
        intro w' hSw;refine lkw rfl rfl (by rfl) ?_ ?_
        ·go_simp<;>with_reducible rfl
        try simp only[Act.put,tS,t0,t1]
        trivial
       simp only[zw,zk,Act.put,tS,t0,t1];refine w1 11 0 (by kernel_rfl) rfl ?_;replace k:=zj (k.out.add hf (zb _ _ _));clear hf;go_wp2_with((with_reducible refine zx ?_);refine so1 k rfl rfl rfl (by assumption) .a3 (by rfl) rfl ?_;clear k;intro W k);refine zd (zJ rfl) ?_;refine zv (by kernel_rfl) ?_ _;clear HPer;replace k:Hid (St _ _ _ [(b3,#[.int .i64 a],3),(b50,#[.int .i64 0,.slice none 0 0],50),(c3,#[.int .i64 64],3),(c50,#[.int .i64 hsz,v8],50)] _ _ _):=k
       go_upto_region 14 with fail
       have HPer:=Lib.hid k.out.per;refine xj k 1 2 rfl rfl 5 5 (by kernel_rfl) rfl ?_;clear k;intro W k;refine zq [(0,some 60,[]),(1,some 61,[])] [?v33_0,?v33_1] 3 (by kernel_rfl) (.of rfl rfl rfl k.out) ?l33 ?h33;case l33=>
        intro w' hSw;obtain⟨_,_,_,_,_,_,hSw⟩:=hSw;iterate 2
         refine lkw rfl rfl (by rfl) ?_ ?_
         ·first|((with_reducible refine yw ?_);first|exact hSw.l1 rfl rfl (by repeat constructor) (by rfl)|exact hSw.la rfl rfl .a3 (by rfl) (by rfl)|exact hSw.lp rfl rfl (by repeat constructor) (D:= #[_,_]) (by rfl) (by rfl) (by rfl))|(go_simp<;>with_reducible rfl)
         try simp only[Act.put,tS,t0,t1]
        trivial
       simp only[zw,zk,Act.put,tS,t0,t1];refine w1 2 2 (by kernel_rfl) rfl ?_;go_wp2_with((with_reducible refine zx ?_);refine soa k rfl rfl rfl .a1 rfl rfl (yU rfl hv8) ?_;clear k;intro W k);refine zd (yz (.of rfl rfl rfl k.out)) ?_;refine zq [(3,some 7,[]),(4,some 8,[])] [?v34_3,?v34_4] 0 (by kernel_rfl) (.of rfl rfl rfl k.out) ?l34 ?h34;case l34=>
        intro w' hSw;obtain⟨_,_,_,_,_,_,hSw⟩:=hSw;iterate 2
         refine lkw rfl rfl (by rfl) ?_ ?_
         ·go_simp<;>with_reducible rfl
         try simp only[Act.put,tS,t0,t1]
        trivial
       simp only[zw,zk,Act.put,tS,t0,t1];refine zv (by kernel_rfl) ?_ _;clear HPer;go_wp2_with fail;have hB:=hI'.out.back hszn hX' k.out K1.out;have hD2:=(k.out.only.block _ hsn (fun⟨x,hx,e⟩=>(hI'.out.1 x hx).1 e)).trans hD'.out;obtain⟨X9,k9⟩:=hB.fin;exact jp hD2 (yg rfl _ rfl rfl rfl (xE k9 1 rfl 50 rfl rfl)) ⟨v8,l2,a,0,rfl,k9.out.2,HL2.out,hlen2,.inl rfl,k9.end⟩
end
end Go.Proofs.YtaccidkgnkmagaaGreatDoor.Top
