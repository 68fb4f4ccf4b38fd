/-
  Walks and laws of the whole machine: Turn2, Call, Sleep, Sleep2, Due, Cell. Conditions: each theorem names its own.
-/
import Derived.Test.YtaccidkgnkmagaaGreatDoorTs05
set_option maxRecDepth 16000
set_option maxHeartbeats 12800000
set_option linter.unusedVariables false
set_option linter.unusedSimpArgs false
namespace Go.Proofs.YtaccidkgnkmagaaGreatDoor.Top
open Go.RowKit
theorem tspend_any(v:Value)(l:List (Array Value))(x:Int)(X0:Nat->Prop)(w:World)(h:Sl 1 v l X0 w)(hr: ∀r∈l,Pos r)(hX: ∀b,X0 b->b<w.heap.size)(hle:l.length<=10000000)(q:Array Value):
  Calls Tryz.prog 96 #[.agg #[v,.int .i64 x]] w (TurnR l q l.length X0 w):=by
 obtain⟨A,c,rfl,hlc,hcm⟩:=h.len;have k:Hid (St (fun _=>False) X0 w [] (Sl 1 (.slice A l.length c) l) X0 w):=St.begin hX h (zb _ _ _);have HR:=Lib.hid hr;clear h hr hlc hcm;obtain⟨bn,hn0⟩: ∃bn,((l.length:Int)==0)=bn:=⟨_,rfl⟩;cases bn with
 |true=>
  go_enter Tryz.func96,Tryz.ntmps96;go_wp2_with(first|((with_reducible refine zz ?_);first|(refine zl k rfl rfl .a1 (by rfl) ?_)|(refine lda k rfl rfl .a1 (by rfl) ?_))|((with_reducible refine zx ?_);refine soa k rfl rfl rfl .a0 (by rfl) (by rfl) (zm rfl) ?_;clear k;intro W k)|((with_reducible refine zI ?_);refine yt k rfl rfl rfl ?_;clear k;intro b X W k)|((with_reducible refine zf ?_);refine zG k rfl (T:=45) rfl (Tryz.zeroValue45 _) ?_;clear k;intro b X W k));exact bodyPost_ret (yj rfl _ rfl (zY k.out 0 rfl 45 (Tryz.isAgg45 _) (Tryz.sizeOf45 _) rfl)) rfl ⟨_,l,x,rfl,k.out.out,(fun r hr=> .inl hr),Nat.le_refl _,k.out.end⟩
 |false=>
  obtain⟨bx,hx⟩: ∃bx,decide (wrap64 (x-1)<=0)=bx:=⟨_,rfl⟩;go_enter Tryz.func96,Tryz.ntmps96
  go_upto_region 4 with(first|((with_reducible refine zz ?_);refine zl k rfl rfl .a1 (by rfl) ?_)|((with_reducible refine zx ?_);refine so1 k rfl rfl rfl (by rfl) .a1 (by rfl) rfl ?_;clear k;intro W k)|((with_reducible refine zI ?_);refine yt k rfl rfl rfl ?_;clear k;intro b X W k)|((with_reducible refine zf ?_);refine zG k rfl (T:=45) rfl (Tryz.zeroValue45 _) ?_;clear k;intro b X W k))
  replace k:Hid (St _ _ _ [(_,#[_,_],_),(_,#[_,_],_)] _ _ _):=k;generalize wrap64 (x-1)=y at k hx⊢;cases bx with
  |true=>
   have hy:y<=0:=by simpa using hx
   go_wp2_with((with_reducible refine zz ?_);first|(refine zl k rfl rfl .a1 (by rfl) ?_)|(refine lda k rfl rfl .a1 (by rfl) ?_));refine(tyield_any _ l y _ _ k.out.fact HR.out k.out.lt hle q).mono ?_;rintro e W1 ⟨v',l',z,rfl,hs,hm,hl,hb⟩;obtain⟨A',c',rfl,_⟩:=hs.len;replace k:=zj ((k.out.call hb).add hs (zb _ _ _));clear hs hb;go_wp2_with((with_reducible refine zx ?_);refine soa k rfl rfl rfl .a0 (by rfl) (by rfl) (zm rfl) ?_;clear k;intro W k);exact bodyPost_ret (yj rfl _ rfl (zY k.out 0 rfl 45 (Tryz.isAgg45 _) (Tryz.sizeOf45 _) rfl)) rfl ⟨_,l',z,rfl,k.out.out.2,hm,hl,k.out.end⟩
  |false=>
   have hy: ¬y<=0:=by simpa using hx
   go_wp2_with(first|((with_reducible refine zz ?_);first|(refine zl k rfl rfl .a1 (by rfl) ?_)|(refine lda k rfl rfl .a1 (by rfl) ?_))|((with_reducible refine zx ?_);refine soa k rfl rfl rfl .a0 (by rfl) (by rfl) (zm rfl) ?_;clear k;intro W k));exact bodyPost_ret (yj rfl _ rfl (zY k.out 0 rfl 45 (Tryz.isAgg45 _) (Tryz.sizeOf45 _) rfl)) rfl ⟨_,l,y,rfl,k.out.out,(fun r hr=> .inl hr),Nat.le_refl _,k.out.end⟩
theorem tdrop1_any(F:Nat)(hF:F=163\/F=166)(y:Int)(b:Nat)(x:Int)(w:World)(hc:w.cell? ⟨b,0,none⟩=some (.int .i64 x)):
  Calls Tryz.prog F (#[.int .i64 y]++ #[.pointer (some ⟨b,0,none⟩)]) w fun e w'=>e= .returned (.bool (y==x))/\Below w.heap.size w w':=by
 rcases hF with rfl|rfl
 ·go_enter Tryz.func163,Tryz.ntmps163
  go_wp2_with fail
  go_ret
  exact⟨rfl,Below.refl _ _⟩
 ·go_enter Tryz.func166,Tryz.ntmps166
  go_wp2_with fail
  go_ret
  exact⟨rfl,Below.refl _ _⟩
theorem isFn163:Zp Tryz.prog 163:=⟨_,Tryz.func163,by kernel_rfl,by kernel_rfl⟩
theorem isFn166:Zp Tryz.prog 166:=⟨_,Tryz.func166,by kernel_rfl,by kernel_rfl⟩
def isInt(x:Int)(r:Array Value):Bool:=zQ r 0==x
theorem tpred{F:Nat}(hF:F=163\/F=166){l:List (Array Value)}(hl: ∀r∈l,Pos r){b:Nat}{x:Int}{base:Nat}{w:World}(hb:b<base)(hc:w.cell? ⟨b,0,none⟩=some (.int .i64 x)):Pred1 (.func (.func F) #[] #[.pointer (some ⟨b,0,none⟩)]) l (isInt x) base w:=by
 refine⟨F,_,rfl,by rcases hF with rfl|rfl;exact isFn163;exact isFn166,fun r hr W hW=> ?_⟩;obtain⟨y,rfl,_⟩:=hl r hr;exact tdrop1_any F hF y b x W ((hW.cell (p:=⟨b,0,none⟩) hb).trans hc)
theorem tdrop_any(v:Value)(l:List (Array Value))(x y:Int)(X0:Nat->Prop)(w:World)(h:Sl 1 v l X0 w)(hr: ∀r∈l,Pos r)(hX: ∀b,X0 b->b<w.heap.size)(hle:l.length<=10000000)(q:Array Value):
  Calls Tryz.prog 130 #[.agg #[v,.int .i64 x],.int .i64 y] w (TurnR l q l.length X0 w):=by
 obtain⟨A,c,rfl,hlc,hcm⟩:=h.len;have k:Hid (St (fun _=>False) X0 w [] (Sl 1 (.slice A l.length c) l) X0 w):=St.begin hX h (zb _ _ _);have HR:=Lib.hid hr;have HO:Hid (∀r∈l,yZ r):=fun r hr=>(HR.out r hr).int.one;have HS:Hid (∀r∈l,r.size=1):=fun r hr=>(HR.out r hr).int.size;clear h hr hlc hcm;go_enter Tryz.func130,Tryz.ntmps130;go_wp2_with(first|((with_reducible refine zz ?_);refine zl k rfl rfl .a2 (by rfl) ?_)|((with_reducible refine zI ?_);first|(refine yt k rfl rfl rfl ?_;clear k;intro b X W k)|(refine st_box_one k rfl rfl rfl rfl ?_;clear k;intro b X W k))|((with_reducible refine zf ?_);refine zG k rfl (T:=45) rfl (Tryz.zeroValue45 _) ?_;clear k;intro b X W k));have hbx:=(k.out.blk (i:=1) rfl);refine(idxInt_any _ l _ (isInt y) X W k.out.fact W.heap.size (Nat.le_refl _) (tpred (.inl rfl) HR.out hbx.lt (hbx.rules.1 0))).mono ?_;rintro e W1 ⟨rfl,hb⟩;replace k:=zj (k.out.call hb);clear hb hbx;obtain⟨i,hi⟩: ∃i,jx (isInt y) l=i:=⟨_,rfl⟩;rw[hi];clear hi;obtain⟨b1,h1⟩: ∃b1,decide (i<0)=b1:=⟨_,rfl⟩;cases b1 with
 |true=>
  have hi:i<0:=by simpa using h1
  go_wp2_with(first|((with_reducible refine zz ?_);refine lda k rfl rfl .a2 (by rfl) ?_)|((with_reducible refine zx ?_);refine soa k rfl rfl rfl .a0 (by rfl) (by rfl) (zm rfl) ?_;clear k;intro W k));exact bodyPost_ret (yj rfl _ rfl (zY k.out 0 rfl 45 (Tryz.isAgg45 _) (Tryz.sizeOf45 _) rfl)) rfl ⟨_,l,x,rfl,k.out.out,(fun r hr=> .inl hr),Nat.le_refl _,k.out.end⟩
 |false=>
  have hi: ¬i<0:=by simpa using h1
  obtain⟨b2,h2⟩: ∃b2,(i==0)=b2:=⟨_,rfl⟩;cases b2;all_goals
   clear h1;go_wp2_with(first|((with_reducible refine zz ?_);refine zl k rfl rfl .a2 (by rfl) ?_)|((with_reducible refine zx ?_);refine so1 k rfl rfl rfl (by rfl) .a2 (by rfl) rfl ?_;clear k;intro W k));refine(cloneInt_any _ l _ _ k.out.fact HO.out (by omega)).mono ?_;rintro e W2 ⟨v2,rfl,hown,hb⟩;have hlt:=(k.out.blk (i:=1) rfl).lt;have hbx:=(k.out.blk (i:=1) rfl).below hb;have hsz:=hb.size;obtain⟨A2,c2,rfl,_⟩:=yb hown;go_wp2_with fail;refine(delInt_any _ _ l _ (isInt y) W2 hown HS.out HO.out hsz (tpred (.inr rfl) HR.out hlt (hbx.rules.1 0))).mono ?_;rintro e W3 ⟨v3,rfl,hown3,hb3⟩;obtain⟨A3,c3,rfl,_⟩:=yb hown3;have hf:=zV hown3 (fun q hq=>HS.out q ((List.mem_filter.1 hq).1)) k.out.lt;have hlen:=List.length_filter_le (fun r=> !isInt y r) l;have hmem:Hid (∀q∈l.filter (fun r=> !isInt y r),q∈l):=fun q hq=>(List.mem_filter.1 hq).1;replace k:=zj ((k.out.call (hb.trans hb3)).add hf (zb _ _ _));clear hb hb3 hf hown hown3 hbx h2;generalize hLL:l.filter (fun r=> !isInt y r)=L at k hlen hmem⊢;clear hLL;go_wp2_with(first|((with_reducible refine zz ?_);refine lda k rfl rfl .a2 (by rfl) ?_)|((with_reducible refine zx ?_);first|(refine so1 k rfl rfl rfl (by rfl) .a2 (by rfl) rfl ?_;clear k;intro W k)|(refine soa k rfl rfl rfl .a0 (by rfl) (by rfl) (zm rfl) ?_;clear k;intro W k)));exact bodyPost_ret (yj rfl _ rfl (zY k.out 0 rfl 45 (Tryz.isAgg45 _) (Tryz.sizeOf45 _) rfl)) rfl ⟨_,L,_,rfl,k.out.out.2,(fun r hr=> .inl (hmem.out r hr)),hlen,k.out.end⟩
theorem cvalue_any(x v:Int)(w:World)(h0:0<=v)(h1:v<4294967296):
  Calls Tryz.prog 117 #[.int .i64 x,.int .u32 v] w fun e w'=>(∃y:Int,e= .returned (.int .u32 y)/\0<=y/\y<4294967296)/\w=w':=by
 by_cases hx:x=0
 ·subst hx
  go_enter Tryz.func117,Tryz.ntmps117;go_wp2_with fail
  go_ret
  exact⟨⟨v,rfl,h0,h1⟩,rfl⟩
 ·have hx1:(x==0)=false:=by rw[beq_eq_false_iff_ne];exact hx
  go_enter Tryz.func117,Tryz.ntmps117;go_wp2_with fail
  go_ret
  exact⟨⟨_,rfl,by omega,by omega⟩,rfl⟩
def CpuR(w:World)(e:Ending)(w':World):Prop:= ∃C:Array Value,e= .returned (.agg C)/\Ty vZ C/\Below w.heap.size w w'
theorem cback_any(C:Array Value)(x v:Int)(w:World)(hC:Ty vZ C)(h0:0<=v)(h1:v<4294967296):
  Calls Tryz.prog 115 #[.agg C,.int .i64 x,.int .u32 v] w (CpuR w):=by
 have k:Hid (St (fun _=>False) (fun _=>False) w [] (fun _ _=>True) (fun _=>False) w):=St.begin (fun _ h=>h.elim) trivial xZ;have HS:Hid (C.size=9):=hC.size;have hf:Nat.blt 0 C.size=true:=by rw[HS.out];rfl
 have HC:=Lib.hid hC;clear hC;go_enter Tryz.func115,Tryz.ntmps115;go_wp2_with(first|((with_reducible refine zI ?_);refine yt k rfl rfl rfl ?_;clear k;intro b X W k)|((with_reducible refine zf ?_);refine zG k rfl (T:=125) rfl (Tryz.zeroValue125 _) ?_;clear k;intro b X W k));refine(cvalue_any x v _ h0 h1).mono ?_;rintro e W1 ⟨⟨y,rfl,hy0,hy1⟩,rfl⟩
 go_upto_region 2 with((with_reducible refine zx ?_);refine so1 k rfl rfl rfl (by rfl) .a1 (by assumption) rfl ?_;clear k;intro W k)
 have hT:=HC.out.set (j:=0) rfl (ju hy0 hy1);replace k:Hid (St _ _ _ [(_,_,_),(_,C.setIfInBounds 0 (.int .u32 y),_)] _ _ _):=k;generalize C.setIfInBounds 0 (.int .u32 y)=D at k hT;have hs:D.size=9:=hT.size;have ho:=hT.one;have HT:=Lib.hid hT;clear hT;go_wp2_with(first|((with_reducible refine zz ?_);refine lda k rfl rfl .a1 (by assumption) ?_)|((with_reducible refine zx ?_);refine soa k rfl rfl rfl .a0 (by assumption) (by rfl) (by assumption) ?_;clear k;intro W k));exact bodyPost_ret (yj rfl _ rfl (zY k.out 0 rfl 125 (Tryz.isAgg125 _) (Tryz.sizeOf125 _) hs)) rfl ⟨D,rfl,HT.out,k.out.end⟩
def CallR(w:World)(e:Ending)(w':World):Prop:= ∃n a b c:Int,e= .returned (.agg #[.int .u32 n,.int .u32 a,.int .u32 b,.int .u32 c])/\(0<=n/\n<4294967296)/\(0<=a/\a<4294967296)/\(0<=b/\b<4294967296)/\(0<=c/\c<4294967296)/\Below w.heap.size w w'
theorem cfrom_any(C:Array Value)(w:World)(hC:Ty vZ C):Calls Tryz.prog 94 #[.agg C] w (CallR w):=by
 have k:Hid (St (fun _=>False) (fun _=>False) w [] (fun _ _=>True) (fun _=>False) w):=St.begin (fun _ h=>h.elim) trivial xZ;obtain⟨x0,e0,b0⟩:=hC.u32 0 rfl;obtain⟨x1,e1,b1⟩:=hC.u32 1 rfl;obtain⟨x2,e2,b2⟩:=hC.u32 2 rfl;obtain⟨x3,e3,b3⟩:=hC.u32 3 rfl;clear hC;go_enter Tryz.func94,Tryz.ntmps94;go_wp2_with(first|((with_reducible refine zz ?_);refine zl k rfl rfl .a1 (by assumption) ?_)|((with_reducible refine zx ?_);refine soa k rfl rfl rfl .a0 (by rfl) (by rfl) (zm rfl) ?_;clear k;intro W k)|((with_reducible refine zI ?_);refine yt k rfl rfl rfl ?_;clear k;intro b X W k)|((with_reducible refine zf ?_);refine zG k rfl (T:=130) rfl (Tryz.zeroValue130 _) ?_;clear k;intro b X W k));exact bodyPost_ret (yj rfl _ rfl (zY k.out 0 rfl 130 (Tryz.isAgg130 _) (Tryz.sizeOf130 _) rfl)) rfl ⟨x0,x1,x2,x3,rfl,b0,b1,b2,b3,k.out.end⟩
def FdsR(w:World)(e:Ending)(w':World):Prop:= ∃(F:Array Value) (i x:Int),e= .returned (.tuple #[.agg F,.int .i64 i,.int .i64 x])/\Ty kFds F/\0<=i/\i<=3/\(x=0\/x=5)/\Below w.heap.size w w'
theorem pset_any(F:Array Value)(p:Int)(wr:Bool)(w:World)(hF:Ty kFds F)(hp0: -9223372036854775808<=p)(hp1:p<=9223372036854775807):Calls Tryz.prog 178 #[.agg F,.agg #[.int .i64 p,.bool wr]] w (FdsR w):=by
 have k:Hid (St (fun _=>False) (fun _=>False) w [] (fun _ _=>True) (fun _=>False) w):=St.begin (fun _ h=>h.elim) trivial xZ;have hs:F.size=8:=hF.size;have ho:=hF.one;have HF:=Lib.hid hF;have hE:Ty kEnd #[.int .i64 p,.bool wr]:=⟨⟨p,rfl,hp0,hp1⟩,⟨wr,rfl⟩,trivial⟩;have HE:=Lib.hid hE;obtain⟨x0,e0,_⟩:=hF.i64 0 rfl;obtain⟨x1,e1,_⟩:=hF.i64 2 rfl;obtain⟨x2,e2,_⟩:=hF.i64 4 rfl;obtain⟨x3,e3,_⟩:=hF.i64 6 rfl;have HS:=Lib.hid hs;clear hF hE hp0 hp1;go_enter Tryz.func178,Tryz.ntmps178;go_wp2_with(first|((with_reducible refine zI ?_);refine yt k rfl rfl rfl ?_;clear k;intro b X W k)|((with_reducible refine zf ?_);refine zG k rfl (T:=128) rfl (Tryz.zeroValue128 _) ?_;clear k;intro b X W k))
 go_loop [8] (fun i=> ∃j:Nat,j<=4/\i= .int .i64 j) (fun i=>4-(intOf i).toNat)
 case atStart=>exact⟨0,by omega,rfl⟩
 case round=>
  obtain⟨j,hj,rfl⟩:=hrel;have hj5:j=0\/j=1\/j=2\/j=3\/j=4:=by omega
  rcases hj5 with rfl|rfl|rfl|rfl|rfl
  ·obtain⟨bx,hx⟩: ∃bx,(x0==0)=bx:=⟨_,rfl⟩
   cases bx with
   |true=>
    go_upto_region 6 with(first|((with_reducible refine zz ?_);first|(refine zl k rfl rfl (by repeat constructor) (by first|rfl|assumption) ?_)|(refine lda k rfl rfl .a1 (by rfl) ?_))|((with_reducible refine zx ?_);refine xm k 2 rfl (T:=127) rfl rfl rfl rfl (Tryz.sizeOf127 _) rfl (by rw[HS.out];decide) (zm rfl) ?_;clear k;intro W k))
    have hT:=HF.out.patch HE.out 0 rfl (by decide);replace k:Hid (St _ _ _ [(_,_,_),(_,_,_),(_,patch F 0 #[.int .i64 p,.bool wr],_)] _ _ _):=k;clear hs ho;generalize patch F 0 #[.int .i64 p,.bool wr]=D at k hT;have hs:D.size=8:=hT.size;have ho:=hT.one;have HT:=Lib.hid hT;clear hT;go_wp2_with(first|((with_reducible refine zz ?_);refine lda k rfl rfl .a2 (by assumption) ?_)|((with_reducible refine zx ?_);refine soa k rfl rfl rfl .a0 (by assumption) (by rfl) (by assumption) ?_;clear k;intro W k));exact bodyPost_ret (yg rfl _ rfl rfl rfl (zY k.out 0 rfl 128 (Tryz.isAgg128 _) (Tryz.sizeOf128 _) hs)) rfl ⟨D,0,0,rfl,HT.out,by omega,by omega,.inl rfl,k.out.end⟩
   |false=>
    go_wp2_with((with_reducible refine zz ?_);refine zl k rfl rfl .a2 (by assumption) ?_)
    go_round
    case rel=>exact⟨1,by omega,by go_num⟩
    case measure=>simp[intOf]
  ·obtain⟨bx,hx⟩: ∃bx,(x1==0)=bx:=⟨_,rfl⟩
   cases bx with
   |true=>
    go_upto_region 6 with(first|((with_reducible refine zz ?_);first|(refine zl k rfl rfl (by repeat constructor) (by first|rfl|assumption) ?_)|(refine lda k rfl rfl .a1 (by rfl) ?_))|((with_reducible refine zx ?_);refine xm k 2 rfl (T:=127) rfl rfl rfl rfl (Tryz.sizeOf127 _) rfl (by rw[HS.out];decide) (zm rfl) ?_;clear k;intro W k))
    have hT:=HF.out.patch HE.out 2 rfl (by decide);replace k:Hid (St _ _ _ [(_,_,_),(_,_,_),(_,patch F 2 #[.int .i64 p,.bool wr],_)] _ _ _):=k;clear hs ho;generalize patch F 2 #[.int .i64 p,.bool wr]=D at k hT;have hs:D.size=8:=hT.size;have ho:=hT.one;have HT:=Lib.hid hT;clear hT;go_wp2_with(first|((with_reducible refine zz ?_);refine lda k rfl rfl .a2 (by assumption) ?_)|((with_reducible refine zx ?_);refine soa k rfl rfl rfl .a0 (by assumption) (by rfl) (by assumption) ?_;clear k;intro W k));exact bodyPost_ret (yg rfl _ rfl rfl rfl (zY k.out 0 rfl 128 (Tryz.isAgg128 _) (Tryz.sizeOf128 _) hs)) rfl ⟨D,1,0,rfl,HT.out,by omega,by omega,.inl rfl,k.out.end⟩
   |false=>
    go_wp2_with((with_reducible refine zz ?_);refine zl k rfl rfl .a2 (by assumption) ?_)
    go_round
    case rel=>exact⟨2,by omega,by go_num⟩
    case measure=>simp[intOf]
  ·obtain⟨bx,hx⟩: ∃bx,(x2==0)=bx:=⟨_,rfl⟩
   cases bx with
   |true=>
    go_upto_region 6 with(first|((with_reducible refine zz ?_);first|(refine zl k rfl rfl (by repeat constructor) (by first|rfl|assumption) ?_)|(refine lda k rfl rfl .a1 (by rfl) ?_))|((with_reducible refine zx ?_);refine xm k 2 rfl (T:=127) rfl rfl rfl rfl (Tryz.sizeOf127 _) rfl (by rw[HS.out];decide) (zm rfl) ?_;clear k;intro W k))
    have hT:=HF.out.patch HE.out 4 rfl (by decide);replace k:Hid (St _ _ _ [(_,_,_),(_,_,_),(_,patch F 4 #[.int .i64 p,.bool wr],_)] _ _ _):=k;clear hs ho;generalize patch F 4 #[.int .i64 p,.bool wr]=D at k hT;have hs:D.size=8:=hT.size;have ho:=hT.one;have HT:=Lib.hid hT;clear hT;go_wp2_with(first|((with_reducible refine zz ?_);refine lda k rfl rfl .a2 (by assumption) ?_)|((with_reducible refine zx ?_);refine soa k rfl rfl rfl .a0 (by assumption) (by rfl) (by assumption) ?_;clear k;intro W k));exact bodyPost_ret (yg rfl _ rfl rfl rfl (zY k.out 0 rfl 128 (Tryz.isAgg128 _) (Tryz.sizeOf128 _) hs)) rfl ⟨D,2,0,rfl,HT.out,by omega,by omega,.inl rfl,k.out.end⟩
   |false=>
    go_wp2_with((with_reducible refine zz ?_);refine zl k rfl rfl .a2 (by assumption) ?_)
    go_round
    case rel=>exact⟨3,by omega,by go_num⟩
    case measure=>simp[intOf]
  ·obtain⟨bx,hx⟩: ∃bx,(x3==0)=bx:=⟨_,rfl⟩
   cases bx with
   |true=>
    go_upto_region 6 with(first|((with_reducible refine zz ?_);first|(refine zl k rfl rfl (by repeat constructor) (by first|rfl|assumption) ?_)|(refine lda k rfl rfl .a1 (by rfl) ?_))|((with_reducible refine zx ?_);refine xm k 2 rfl (T:=127) rfl rfl rfl rfl (Tryz.sizeOf127 _) rfl (by rw[HS.out];decide) (zm rfl) ?_;clear k;intro W k))
    have hT:=HF.out.patch HE.out 6 rfl (by decide);replace k:Hid (St _ _ _ [(_,_,_),(_,_,_),(_,patch F 6 #[.int .i64 p,.bool wr],_)] _ _ _):=k;clear hs ho;generalize patch F 6 #[.int .i64 p,.bool wr]=D at k hT;have hs:D.size=8:=hT.size;have ho:=hT.one;have HT:=Lib.hid hT;clear hT;go_wp2_with(first|((with_reducible refine zz ?_);refine lda k rfl rfl .a2 (by assumption) ?_)|((with_reducible refine zx ?_);refine soa k rfl rfl rfl .a0 (by assumption) (by rfl) (by assumption) ?_;clear k;intro W k));exact bodyPost_ret (yg rfl _ rfl rfl rfl (zY k.out 0 rfl 128 (Tryz.isAgg128 _) (Tryz.sizeOf128 _) hs)) rfl ⟨D,3,0,rfl,HT.out,by omega,by omega,.inl rfl,k.out.end⟩
   |false=>
    go_wp2_with((with_reducible refine zz ?_);refine zl k rfl rfl .a2 (by assumption) ?_)
    go_round
    case rel=>exact⟨4,by omega,by go_num⟩
    case measure=>simp[intOf]
  ·clear hs
   have hs:=HS.out;go_wp2_with(first|((with_reducible refine zz ?_);refine lda k rfl rfl .a2 (by assumption) ?_)|((with_reducible refine zx ?_);refine soa k rfl rfl rfl .a0 (by assumption) (by rfl) (by assumption) ?_;clear k;intro W k));exact bodyPost_ret (yg rfl _ rfl rfl rfl (zY k.out 0 rfl 128 (Tryz.isAgg128 _) (Tryz.sizeOf128 _) HS.out)) rfl ⟨F,0,5,rfl,HF.out,by omega,by omega,.inr rfl,k.out.end⟩
theorem ty_u64{ks:List Kd}{r:Array Value}(h:Ty ks r)(j:Nat)(hk:ks[j]? =some .u64):r[j]? =some (.int .u64 (zQ r j))/\0<=zQ r j/\zQ r j<18446744073709551616:=by
 obtain⟨x,hx,h0,h1⟩:=h.u64 j hk;have e:zQ r j=x:=by simp[zQ,hx]
 rw[e];exact⟨hx,h0,h1⟩
def behB(a r:Array Value):Bool:=decide (zQ a 0<zQ r 0)||(zQ r 0==zQ a 0&&decide (zQ a 1<zQ r 1))
theorem behind_any(r a:Array Value)(w:World)(hr:Ty vQ r)(ha:Ty vQ a):Calls Tryz.prog 158 #[.agg r,.agg a] w fun e w'=>e= .returned (.bool (behB a r))/\Below w.heap.size w w':=by
 have k:Hid (St (fun _=>False) (fun _=>False) w [] (fun _ _=>True) (fun _=>False) w):=St.begin (fun _ h=>h.elim) trivial xZ;obtain⟨e0,_,_⟩:=ty_u64 hr 0 rfl;obtain⟨f0,_,_⟩:=ty_u64 ha 0 rfl;have e1:=xq hr 1 rfl;have f1:=xq ha 1 rfl;have HB:Hid (behB a r=(decide (zQ a 0<zQ r 0)||(zQ r 0==zQ a 0&&decide (zQ a 1<zQ r 1)))):=show _=_ from rfl;clear hr ha;generalize zQ r 0=x at e0 HB;generalize zQ r 1=x1 at e1 HB;generalize zQ a 0=y at f0 HB;generalize zQ a 1=y1 at f1 HB;rw[HB.out];clear HB;by_cases h1:y<x
 ·have d1:decide (y<x)=true:=decide_eq_true h1
  go_enter Tryz.func158,Tryz.ntmps158;go_wp2_with(first|((with_reducible refine zp ?_);first|go_big_skip)|((with_reducible refine zz ?_);refine zl k rfl rfl (by repeat constructor) (by assumption) ?_)|((with_reducible refine zI ?_);refine yt k rfl rfl rfl ?_;clear k;intro b X W k))
  go_ret
  exact⟨by simp[h1],k.out.end⟩
 ·by_cases h2:x=y
  ·subst h2
   have d1:decide (x<x)=false:=decide_eq_false h1;go_enter Tryz.func158,Tryz.ntmps158;go_wp2_with(first|((with_reducible refine zp ?_);first|refine zg rfl rfl rfl (by with_reducible rfl) ?_)|((with_reducible refine zz ?_);refine zl k rfl rfl (by repeat constructor) (by assumption) ?_)|((with_reducible refine zI ?_);refine yt k rfl rfl rfl ?_;clear k;intro b X W k))
   go_ret
   exact⟨by simp,k.out.end⟩
  ·have h3:(x==y)=false:=by rw[beq_eq_false_iff_ne];exact h2
   have d1:decide (y<x)=false:=decide_eq_false h1;go_enter Tryz.func158,Tryz.ntmps158;go_wp2_with(first|((with_reducible refine zp ?_);first|go_big_skip|refine zg rfl rfl rfl (by with_reducible rfl) ?_)|((with_reducible refine zz ?_);refine zl k rfl rfl (by repeat constructor) (by assumption) ?_)|((with_reducible refine zI ?_);refine yt k rfl rfl rfl ?_;clear k;intro b X W k))
   go_ret
   exact⟨by simp[h1,h2],k.out.end⟩
theorem add1_any(r a:Array Value)(b:Nat)(w:World)(hr:Ty vQ r)(ha:Ty vQ a)(hk:Blk w b a 219):
  Calls Tryz.prog 157 (#[.agg r]++ #[.pointer (some ⟨b,0,none⟩)]) w fun e w'=>e= .returned (.bool (behB a r))/\Below w.heap.size w w':=by
 have has:a.size=2:=ha.size;have hrs:r.size=2:=hr.size;have HR:=Lib.hid hr;have HA:=Lib.hid ha;have hlt:=hk.lt;clear hr ha;go_enter Tryz.func157,Tryz.ntmps157;go_wp2_with(first|(refine yf rfl 219 (.tmp 0) rfl _ rfl r rfl ?_;intro W1 hk1 hb1 hz1)|(refine zZ rfl (.tmp 2) 219 rfl w.heap.size 0 2 rfl r (Tryz.isAgg219 _) (Tryz.sizeOf219 _) hrs (qE hk1) ?_)|(refine zZ rfl (.tmp 1) 219 rfl b 0 2 rfl a (Tryz.isAgg219 _) (Tryz.sizeOf219 _) has (qE (hk.below hb1)) ?_));refine(behind_any r a W1 HR.out HA.out).mono ?_;rintro e W2 ⟨rfl,hb2⟩;go_wp2_with fail
 go_ret
 exact⟨rfl,hb1.trans (hb2.mono (by omega))⟩
theorem isFn157:Zp Tryz.prog 157:=⟨_,Tryz.func157,by kernel_rfl,by kernel_rfl⟩
def AlarmsR(n:Nat)(X:Nat->Prop)(w:World)(e:Ending)(w':World):Prop:=
 ∃(v:Value) (l:List (Array Value)),e= .returned v/\Sl 2 v l X w' /\(∀r∈l,Ty vQ r)/\l.length<=n/\Below w.heap.size w w'
theorem sdrop1_any(r:Array Value)(b:Nat)(x:Int)(w:World)(hr:Ty vQ r)(hb:b<w.heap.size)(hc:w.cell? ⟨b,0,none⟩=some (.int .i64 x)):
  Calls Tryz.prog 168 (#[.agg r]++ #[.pointer (some ⟨b,0,none⟩)]) w fun e w'=>e= .returned (.bool (zQ r 1==x))/\Below w.heap.size w w':=by
 have e0:=xq hr 1 rfl;have hne:b≠w.heap.size:=by omega
 clear hr;go_enter Tryz.func168,Tryz.ntmps168;go_wp2_with(refine yf rfl 219 (.tmp 0) rfl _ rfl r rfl ?_;intro W1 hk1 hb1 hz1;obtain⟨c1,f1⟩:=hk1.rules;have g1:=(hb1.cell (p:=⟨b,0,none⟩) hb).trans hc)
 go_ret
 exact⟨rfl,hb1⟩
theorem isFn168:Zp Tryz.prog 168:=⟨_,Tryz.func168,by kernel_rfl,by kernel_rfl⟩
theorem sdrop_any(v:Value)(l:List (Array Value))(x:Int)(X:Nat->Prop)(w:World)(h:Sl 2 v l X w)(hl: ∀r∈l,Ty vQ r)(hle:l.length<=10000000)(hX: ∀b,X b->b<w.heap.size):
  Calls Tryz.prog 131 #[v,.int .i64 x] w (AlarmsR l.length X w):=by
 have H:=Lib.hid h;have HL:=Lib.hid hl;clear h hl;have H1:Hid (∀r∈l,yZ r):=fun r hr=>(HL.out r hr).one;have HS:Hid (∀r∈l,r.size=2):=fun r hr=>(HL.out r hr).size;go_enter Tryz.func131,Tryz.ntmps131;go_wp2_with(refine yf rfl 3 (.tmp 1) rfl _ rfl #[.int .i64 x] rfl ?_;intro W1 hk1 hb1 hz1);refine(vy v l X W1 ((zb _ _ _).step H.out (Only.of_below hb1)) H1.out (by omega)).mono ?_;rintro e W2 ⟨v2,rfl,hown2,hb2⟩;have hk2:=hk1.below hb2;have hz2:=hb2.size;have HB2:=Lib.hid (hb1.trans (hb2.mono (by omega)));have HO2:=Lib.hid hown2;clear hb1 hk1 hown2 hb2;have hlt:w.heap.size<W1.heap.size:=by omega
 go_wp2_with fail;refine(delAlarm_any W1.heap.size v2 l _ (fun r=>zQ r 1==x) W2 HO2.out HS.out H1.out hz2 ⟨168,#[.pointer (some ⟨w.heap.size,0,none⟩)],rfl,isFn168,fun r hr W hW=>sdrop1_any r _ x W (HL.out r hr) (Nat.lt_of_lt_of_le hk2.lt hW.size) ((hW.cell (p:=⟨w.heap.size,0,none⟩) hlt).trans (hk2.rules.1 0))⟩).mono ?_;rintro e W3 ⟨v3,rfl,hown3,hb3⟩;go_wp2_with fail
 go_ret
 exact⟨v3,_,rfl,zV hown3 (fun q hq=>HS.out q (List.mem_filter.1 hq).1) (fun b hb=>by have:=hX b hb;omega),fun q hq=>HL.out q (List.mem_filter.1 hq).1,List.length_filter_le _ _,HB2.out.trans (hb3.mono (by omega))⟩
theorem until_any(x y:Int)(w:World):
  Calls Tryz.prog 71 #[.int .u64 x,.int .u32 y] w fun e w'=>(∃z:Int,e= .returned (.int .u64 z)/\0<=z/\z<18446744073709551616)/\w=w':=by
 go_enter Tryz.func71,Tryz.ntmps71;go_wp2_with fail;all_goals (first|contradiction|(rename_i hn;exact absurd rfl hn)|skip)
 all_goals go_ret
 all_goals exact⟨⟨_,rfl,by rw[IntKind.wrap_u64];omega,by rw[IntKind.wrap_u64];omega⟩,rfl⟩
end Go.Proofs.YtaccidkgnkmagaaGreatDoor.Top
namespace Go.Proofs.YtaccidkgnkmagaaGreatDoor
open Go.RowKit
section
variable{P:Program}{md:Region.Mode}{ops:Array Oper}{Q:Exit->Act->World->Prop}{S:World->Prop}{s:Nat}
theorem yI{i j:Nat}{oi oj:Oper}{fuel:Nat}{listed:Array Bool}{a:Act}{w:World}(hr:Region.ready md ops listed=[i,j])(hoi:ops.toList[i]? =some oi)(hoj:ops.toList[j]? =some oj)
  (hi:wpList P ops (Exit.then (fun a' w'=>Then2 (Owed i s listed (S w')) (qg P md ops Q S s fuel (listed.setIfInBounds i true) a' w')) Q) [oi] a w)
  (hj:wpList P ops (Exit.then (fun a' w'=>Then2 (Owed j s listed (S w')) (qg P md ops Q S s fuel (listed.setIfInBounds j true) a' w')) Q) [oj] a w):qg P md ops Q S s (fuel+1) listed a w:=
 wpAnyS_two hr (Zf ((Array.getElem?_toList ..).symm.trans hoi) hi) (Zf ((Array.getElem?_toList ..).symm.trans hoj) hj)
end
end Go.Proofs.YtaccidkgnkmagaaGreatDoor
namespace Go.Proofs.YtaccidkgnkmagaaGreatDoor.Top
open Go.RowKit
theorem yQ{ops:Array Oper}{rest:List Oper}{o:Oper}{a:Act}{w:World}{Q:Exit->Act->World->Prop}{e t size bytes:Nat}(E:ElT e t size bytes)(hgd:o.guard=none){s:Operand}(ho:o.op= .buildSlice t 1 #[(0,s)]){v:Value}(hs:ev a s=some v){C:Array Value}(hv:v.cells=C)(hC:C.size=size)(hsz:0<size)(hsz2:size<=100)
  (h: ∀w',Blk w' w.heap.size C e->Below w.heap.size w w'->w.heap.size<w'.heap.size->wpList Tryz.prog ops Q rest (a.put o.dst (.slice (some ⟨w.heap.size,0,none⟩) 1 1)) w'):wpList Tryz.prog ops Q (o::rest) a w:=by
 refine wpList_plain hgd fun K hK=> ?_;have hrun:=run_rowOf (w:=w) E v C hv hC hsz hsz2;unfold Oper.wp execOp;simp only[ho,List.map_toArray,List.map_cons,List.map_nil,(xO hs),hrun,Sem.run_bind,Sem.run_pure,Result.andThen_ok];exact hK _ _ (h _ (Zj _ _ _) (xw _ _) (by simp))
theorem alarm_lit{x:Array Value}(h:Ty vQ x): ∃t p,x= #[.int .u64 t,.int .i64 p]:=by
 obtain⟨t,h0,_⟩:=h.u64 0 rfl;obtain⟨p,h1,_⟩:=h.i64 1 rfl;have hs:x.size=2:=h.size;refine⟨t,p,Array.ext_getElem? fun i=> ?_⟩;rcases i with _|_|i
 ·exact h0
 ·exact h1
 ·rw[Array.getElem?_eq_none (by omega),Array.getElem?_eq_none (by simp)]
theorem gy{base e size n:Nat}{v:Value}{xs:List Value}{w w':World}(h:w.ownsRow base e size v n xs)(hb:Below w.heap.size w w'):w'.ownsRow base e size v n xs:=by
 rcases h with⟨h0,h1|⟨g,cap,cur,h1,h2,h3,h4⟩⟩
 ·exact⟨h0,.inl h1⟩
 ·exact⟨h0,.inr ⟨g,cap,cur,h1,h2,Blk.below h3 hb,h4⟩⟩
theorem own_ne{base e size n:Nat}{v:Value}{xs:List Value}{w:World}(h:w.ownsRow base e size v n xs):v.ownBlock≠some w.heap.size:=by
 rcases h with⟨h0,⟨h1,_⟩|⟨g,cap,cur,h1,h2,h3,h4⟩⟩
 ·rw[h1];simp[Value.ownBlock]
 ·rw[h1]
  have:=Blk.lt h3;simp only[Value.ownBlock,ne_eq,Option.some.injEq];omega
theorem own_ne2{base e size n:Nat}{v:Value}{xs:List Value}{w:World}(h:w.ownsRow base e size v n xs){b:Nat}(hb:b<base):v.ownBlock≠some b:=by
 intro e;have:=own_below h b e;omega
theorem jm{p:Array Value->Prop}{l:List (Array Value)}{x:Array Value}{j:Nat}(hl: ∀r∈l,p r)(hx:p x): ∀r∈l.take j++ [x]++l.drop j,p r:=by
 intro r hr;simp only[List.append_assoc,List.mem_append,List.mem_singleton] at hr;rcases hr with h|rfl|h
 ·exact hl r (List.mem_of_mem_take h)
 ·exact hx
 ·exact hl r (List.mem_of_mem_drop h)
theorem OwnR.alarms{base:Nat}{l:List (Array Value)}{n:Nat}{X:Nat->Prop}{w0 w:World}{e:Ending}{w':World}(h:OwnR base 219 2 l w e w')(hl: ∀r∈l,Ty vQ r)(hn:l.length<=n)(hX: ∀b,X b->b<base)(hb:Below w0.heap.size w0 w)(hle:w0.heap.size<=base):AlarmsR n X w0 e w':=by
 obtain⟨v',rfl,hown,hb'⟩:=h;exact⟨v',l,rfl,zV hown (fun r hr=>(hl r hr).size) hX,hl,hn,hb.trans (hb'.mono hle)⟩
theorem sadd_any(v:Value)(l:List (Array Value))(x:Array Value)(X:Nat->Prop)(w:World)(h:Sl 2 v l X w)(hl: ∀r∈l,Ty vQ r)(hx:Ty vQ x)(hle:l.length<=10000000)(hX: ∀b,X b->b<w.heap.size):
  Calls Tryz.prog 127 #[v,.agg x] w (AlarmsR (l.length+1) X w):=by
 obtain⟨A,c,rfl,hlc,hcm⟩:=h.len;have H:=Lib.hid h;have HL:=Lib.hid hl;have HX:=Lib.hid hx;have hxs:x.size=2:=hx.size;obtain⟨tx,px,rfl⟩:=alarm_lit hx;clear h hl hx hcm hxs;have H1:Hid (∀r∈l,yZ r):=fun r hr=>(HL.out r hr).one;have HS:Hid (∀r∈l,r.size=2):=fun r hr=>(HL.out r hr).size;go_enter Tryz.func127,Tryz.ntmps127;go_wp2_with(refine yf rfl 219 (.tmp 1) rfl _ rfl _ rfl ?_;intro W1 hk1 hb1 hz1);have HB1:=Lib.hid hb1;have HK1:=Lib.hid hk1;have HSl1:Hid (Sl 2 (.slice A l.length c) l X W1):=(zb _ _ _).step H.out (Only.of_below hb1);clear hb1 hk1;refine(idxAlarm_any _ l _ (fun r=>behB #[.int .u64 tx,.int .i64 px] r) X W1 HSl1.out W1.heap.size (Nat.le_refl _) ?_).mono ?_
 ·exact⟨157,#[.pointer (some ⟨w.heap.size,0,none⟩)],rfl,isFn157,fun r hr W hW=>add1_any r _ _ W (HL.out r hr) HX.out (HK1.out.below hW)⟩
 rintro e W2 ⟨rfl,hb2⟩;have HB2:=Lib.hid (HB1.out.trans (hb2.mono (by omega)));have HK2:=Lib.hid (HK1.out.below hb2);have hz2:=hb2.size;clear hb2;obtain⟨i,j,hi,hneg,hj1,hj2⟩: ∃(i:Int) (j:Nat),jx (fun r=>behB #[.int .u64 tx,.int .i64 px] r) l=i/\(i<0->j=l.length)/\(0<=i->i=j)/\j<=l.length:=by
  rcases qG (fun r=>behB #[.int .u64 tx,.int .i64 px] r) l with⟨h1,_⟩|⟨j,h1,h2,_⟩
  ·exact⟨_,l.length,rfl,fun _=>rfl,fun h0=>by omega,Nat.le_refl _⟩
  ·exact⟨_,j,rfl,fun h0=>by omega,fun _=>h1,by omega⟩
 simp only[hi];clear hi HB1 HSl1;by_cases hlt:i<0
 ·obtain rfl:=hneg hlt
  clear hneg hj1 hj2
  go_upto_region 4 with fail
  refine qu (s:=7) (n:=7) (fun W=>Below W2.heap.size W2 W) (by kernel_rfl) rfl (Only.drew (M:=fun _=>False) W2).below (fun W hS=> ?_);refine zq [(0,some 13,[]),(2,some 15,[]),(3,some 16,[])] [?v1_0,?v1_2,?v1_3] 4 (by kernel_rfl) hS ?l1 ?h1;case l1=>
   intro w' hSw;have r0:=(HK2.out.below hSw).rules.1 0;have r1:=(HK2.out.below hSw).rules.1 1;refine zu rfl rfl (by rfl) ?_ ?_
   ·go_simp
    try(with_reducible rfl)
   try simp only[Act.put,tS,t0,t1]
   refine zu rfl rfl (by rfl) ?_ ?_
   ·go_simp
    try(with_reducible rfl)
   try simp only[Act.put,tS,t0,t1]
   refine zu rfl rfl (by rfl) ?_ ?_
   ·go_simp
    try(with_reducible rfl)
   try simp only[Act.put,tS,t0,t1]
   trivial
  simp only[zw,zk,Act.put,tS,t0,t1];refine yI (i:=1) (j:=4) (fuel:=3) (by kernel_rfl) rfl rfl ?_ ?_
  ·have HBw:=Lib.hid hS
   have hzw:=hS.size;clear hS;go_wp2_with fail;refine(vy _ l X W ((zb _ _ _).step H.out (Only.of_below (HB2.out.trans (HBw.out.mono (by omega))))) H1.out (by omega)).mono ?_;rintro e W1 ⟨v2,rfl,hown,hb4⟩;have hS:Below W2.heap.size W2 W1:=HBw.out.trans (hb4.mono (by omega));have hz1:=hb4.size;clear hb4 HBw;go_wp2_with fail;refine zd (yz hS) ?_;refine w1 4 2 (by kernel_rfl) rfl ?_;have HBw:=Lib.hid hS;have hzw:=hS.size;clear hS;go_wp2_with(refine yQ vg rfl rfl rfl rfl rfl (by decide) (by decide) ?_;intro W4 hkr hb4 hz4);have hS:Below W2.heap.size W2 W4:=HBw.out.trans (hb4.mono (by omega));have hne:=own_ne hown;have hown4:=gy hown hb4;clear hb4 HBw;refine zd (yz hS) ?_;refine w1 5 1 (by kernel_rfl) rfl ?_;have HBw:=Lib.hid hS;have hzw:=hS.size;clear hS;go_wp2_with fail;refine(gp _ v2 l l.length _ _ W4 hown4 HS.out H1.out (by omega) hkr rfl HX.out.one hne (by omega) (by omega)).mono ?_;rintro e W5 ⟨v5,rfl,hown5,hb5⟩;have hS:Below W2.heap.size W2 W5:=HBw.out.trans (hb5.mono (by omega));clear hb5 HBw;go_wp2_with fail;refine zd (yz hS) ?_;refine zq [(6,some 4,[])] [?v2_6] 0 (by kernel_rfl) hS ?l2 ?h2;case l2=>
    intro w' hSw;have r0:=(HK2.out.below hSw).rules.1 0;have r1:=(HK2.out.below hSw).rules.1 1;refine zu rfl rfl (by rfl) ?_ ?_
    ·go_simp
     try(with_reducible rfl)
    try simp only[Act.put,tS,t0,t1]
    trivial
   simp only[zw,zk,Act.put,tS,t0,t1];refine zv (by kernel_rfl) ?_ _;have hz5:=hS.size;go_wp2_with fail
   go_ret
   exact⟨_,_,rfl,zV hown5 (jm HS.out rfl) (fun b hb=>by have:=hX b hb;omega),jm HL.out HX.out,by simp<;>omega,HB2.out.trans (hS.mono (by omega))⟩
  ·have HBw:=Lib.hid hS
   have hzw:=hS.size;clear hS;go_wp2_with(refine yQ vg rfl rfl rfl rfl rfl (by decide) (by decide) ?_;intro W4 hkr hb4 hz4);have hS:Below W2.heap.size W2 W4:=HBw.out.trans (hb4.mono (by omega));clear hb4 HBw;refine zd (yz hS) ?_;refine w1 1 2 (by kernel_rfl) rfl ?_;have HBw:=Lib.hid hS;have hzw:=hS.size;clear hS;go_wp2_with fail;refine(vy _ l X W4 ((zb _ _ _).step H.out (Only.of_below (HB2.out.trans (HBw.out.mono (by omega))))) H1.out (by omega)).mono ?_;rintro e W1 ⟨v2,rfl,hown,hb4⟩;have hS:Below W2.heap.size W2 W1:=HBw.out.trans (hb4.mono (by omega));have hz1:=hb4.size;have hkx:=hkr.below hb4;clear hkr;clear hb4 HBw;go_wp2_with fail;refine zd (yz hS) ?_;refine w1 5 1 (by kernel_rfl) rfl ?_;have HBw:=Lib.hid hS;have hzw:=hS.size;clear hS;go_wp2_with fail;refine(gp _ v2 l l.length _ _ W1 hown HS.out H1.out (by omega) hkx rfl HX.out.one (own_ne2 hown (by omega)) (by omega) (by omega)).mono ?_;rintro e W5 ⟨v5,rfl,hown5,hb5⟩;have hS:Below W2.heap.size W2 W5:=HBw.out.trans (hb5.mono (by omega));clear hb5 HBw;go_wp2_with fail;refine zd (yz hS) ?_;refine zq [(6,some 4,[])] [?v3_6] 0 (by kernel_rfl) hS ?l3 ?h3;case l3=>
    intro w' hSw;have r0:=(HK2.out.below hSw).rules.1 0;have r1:=(HK2.out.below hSw).rules.1 1;refine zu rfl rfl (by rfl) ?_ ?_
    ·go_simp
     try(with_reducible rfl)
    try simp only[Act.put,tS,t0,t1]
    trivial
   simp only[zw,zk,Act.put,tS,t0,t1];refine zv (by kernel_rfl) ?_ _;have hz5:=hS.size;go_wp2_with fail
   go_ret
   exact⟨_,_,rfl,zV hown5 (jm HS.out rfl) (fun b hb=>by have:=hX b hb;omega),jm HL.out HX.out,by simp<;>omega,HB2.out.trans (hS.mono (by omega))⟩
 ·obtain⟨h0,rfl⟩:0<=i/\i=j:=⟨by omega,hj1 (by omega)⟩
  clear hneg hj1
  go_upto_region 4 with fail
  refine qu (s:=7) (n:=7) (fun W=>Below W2.heap.size W2 W) (by kernel_rfl) rfl (Only.drew (M:=fun _=>False) W2).below (fun W hS=> ?_);refine zq [(0,some 13,[]),(2,some 15,[]),(3,some 16,[])] [?v4_0,?v4_2,?v4_3] 4 (by kernel_rfl) hS ?l4 ?h4;case l4=>
   intro w' hSw;have r0:=(HK2.out.below hSw).rules.1 0;have r1:=(HK2.out.below hSw).rules.1 1;refine zu rfl rfl (by rfl) ?_ ?_
   ·go_simp
    try(with_reducible rfl)
   try simp only[Act.put,tS,t0,t1]
   refine zu rfl rfl (by rfl) ?_ ?_
   ·go_simp
    try(with_reducible rfl)
   try simp only[Act.put,tS,t0,t1]
   refine zu rfl rfl (by rfl) ?_ ?_
   ·go_simp
    try(with_reducible rfl)
   try simp only[Act.put,tS,t0,t1]
   trivial
  simp only[zw,zk,Act.put,tS,t0,t1];refine yI (i:=1) (j:=4) (fuel:=3) (by kernel_rfl) rfl rfl ?_ ?_
  ·have HBw:=Lib.hid hS
   have hzw:=hS.size;clear hS;go_wp2_with fail;refine(vy _ l X W ((zb _ _ _).step H.out (Only.of_below (HB2.out.trans (HBw.out.mono (by omega))))) H1.out (by omega)).mono ?_;rintro e W1 ⟨v2,rfl,hown,hb4⟩;have hS:Below W2.heap.size W2 W1:=HBw.out.trans (hb4.mono (by omega));have hz1:=hb4.size;clear hb4 HBw;go_wp2_with fail;refine zd (yz hS) ?_;refine w1 4 2 (by kernel_rfl) rfl ?_;have HBw:=Lib.hid hS;have hzw:=hS.size;clear hS;go_wp2_with(refine yQ vg rfl rfl rfl rfl rfl (by decide) (by decide) ?_;intro W4 hkr hb4 hz4);have hS:Below W2.heap.size W2 W4:=HBw.out.trans (hb4.mono (by omega));have hne:=own_ne hown;have hown4:=gy hown hb4;clear hb4 HBw;refine zd (yz hS) ?_;refine w1 5 1 (by kernel_rfl) rfl ?_;have HBw:=Lib.hid hS;have hzw:=hS.size;clear hS;go_wp2_with fail;refine(gp _ v2 l j _ _ W4 hown4 HS.out H1.out (by omega) hkr rfl HX.out.one hne (by omega) (by omega)).mono ?_;rintro e W5 ⟨v5,rfl,hown5,hb5⟩;have hS:Below W2.heap.size W2 W5:=HBw.out.trans (hb5.mono (by omega));clear hb5 HBw;go_wp2_with fail;refine zd (yz hS) ?_;refine zq [(6,some 4,[])] [?v5_6] 0 (by kernel_rfl) hS ?l5 ?h5;case l5=>
    intro w' hSw;have r0:=(HK2.out.below hSw).rules.1 0;have r1:=(HK2.out.below hSw).rules.1 1;refine zu rfl rfl (by rfl) ?_ ?_
    ·go_simp
     try(with_reducible rfl)
    try simp only[Act.put,tS,t0,t1]
    trivial
   simp only[zw,zk,Act.put,tS,t0,t1];refine zv (by kernel_rfl) ?_ _;have hz5:=hS.size;go_wp2_with fail
   go_ret
   exact⟨_,_,rfl,zV hown5 (jm HS.out rfl) (fun b hb=>by have:=hX b hb;omega),jm HL.out HX.out,by simp<;>omega,HB2.out.trans (hS.mono (by omega))⟩
  ·have HBw:=Lib.hid hS
   have hzw:=hS.size;clear hS;go_wp2_with(refine yQ vg rfl rfl rfl rfl rfl (by decide) (by decide) ?_;intro W4 hkr hb4 hz4);have hS:Below W2.heap.size W2 W4:=HBw.out.trans (hb4.mono (by omega));clear hb4 HBw;refine zd (yz hS) ?_;refine w1 1 2 (by kernel_rfl) rfl ?_;have HBw:=Lib.hid hS;have hzw:=hS.size;clear hS;go_wp2_with fail;refine(vy _ l X W4 ((zb _ _ _).step H.out (Only.of_below (HB2.out.trans (HBw.out.mono (by omega))))) H1.out (by omega)).mono ?_;rintro e W1 ⟨v2,rfl,hown,hb4⟩;have hS:Below W2.heap.size W2 W1:=HBw.out.trans (hb4.mono (by omega));have hz1:=hb4.size;have hkx:=hkr.below hb4;clear hkr;clear hb4 HBw;go_wp2_with fail;refine zd (yz hS) ?_;refine w1 5 1 (by kernel_rfl) rfl ?_;have HBw:=Lib.hid hS;have hzw:=hS.size;clear hS;go_wp2_with fail;refine(gp _ v2 l j _ _ W1 hown HS.out H1.out (by omega) hkx rfl HX.out.one (own_ne2 hown (by omega)) (by omega) (by omega)).mono ?_;rintro e W5 ⟨v5,rfl,hown5,hb5⟩;have hS:Below W2.heap.size W2 W5:=HBw.out.trans (hb5.mono (by omega));clear hb5 HBw;go_wp2_with fail;refine zd (yz hS) ?_;refine zq [(6,some 4,[])] [?v6_6] 0 (by kernel_rfl) hS ?l6 ?h6;case l6=>
    intro w' hSw;have r0:=(HK2.out.below hSw).rules.1 0;have r1:=(HK2.out.below hSw).rules.1 1;refine zu rfl rfl (by rfl) ?_ ?_
    ·go_simp
     try(with_reducible rfl)
    try simp only[Act.put,tS,t0,t1]
    trivial
   simp only[zw,zk,Act.put,tS,t0,t1];refine zv (by kernel_rfl) ?_ _;have hz5:=hS.size;go_wp2_with fail
   go_ret
   exact⟨_,_,rfl,zV hown5 (jm HS.out rfl) (fun b hb=>by have:=hX b hb;omega),jm HL.out HX.out,by simp<;>omega,HB2.out.trans (hS.mono (by omega))⟩
def DueR(l:List (Array Value))(X:Nat->Prop)(w:World)(e:Ending)(w':World):Prop:=
 ∃(v1 v2:Value) (l1 l2:List (Array Value)),e= .returned (.tuple #[v1,v2])/\Sl 1 v1 l1 X w' /\(∀r∈l1,∃x:Int,r= #[.int .i64 x])/\l1.length<=l.length/\Sl 2 v2 l2 X w' /\(∀r∈l2,r∈l)/\l2.length<=l.length/\Below w.heap.size w w'
theorem sl_none{n c size:Nat}{l:List (Array Value)}{X:Nat->Prop}{W:World}(h:Sl size (.slice none n c) l X W):c=0:=by
 obtain⟨A,c',e,hr,_⟩:=h;injection e with e1 e2 e3;subst e1 e3;exact hr.2.2.2.1 rfl
theorem due_rest{A A':Option Addr}{n c c' k:Nat}{l:List (Array Value)}{X:Nat->Prop}{W:World}(_:Sl 2 (.slice A n c) l X W)(hk:k=l.length)(hn:A'=none->c'=0)(hc:c'<=maxLen):Sl 2 (.slice A' (l.length-k) c') (l.drop k) X W:=by
 have e0:l.length-k=0:=by omega
 have hd:l.drop k=[]:=List.drop_eq_nil_of_le (by omega);rw[e0,hd];exact⟨A',c',rfl,⟨by simp[yy],Nat.zero_le _,hc,hn,fun _ _=>⟨fun h=>absurd h (Nat.lt_irrefl 0),fun j u hu=>by simp[yy] at hu⟩⟩,(fun _ h=>by cases h),fun _ _ h=>absurd h (Nat.lt_irrefl 0)⟩
theorem due_end{A:Option Addr}{c k:Nat}{l rows:List (Array Value)}{v v2:Value}{X:Nat->Prop}{w W:World}(H:Sl 2 (.slice A l.length c) l X W)(hv2:Sl 2 v2 (l.drop k) X W)(hX: ∀b,X b->b<w.heap.size)(hown:W.ownsRow w.heap.size 3 1 v rows.length (yy rows))(hr: ∀r∈rows,∃x:Int,r= #[.int .i64 x])(hk:rows.length<=l.length)(hb:Below w.heap.size w W):
  DueR l X w (.returned (.tuple #[v,v2])) W:=
 ⟨v,v2,rows,l.drop k,rfl,zV hown (fun r h=>by obtain⟨x,rfl⟩:=hr r h;rfl) hX,hr,hk,hv2,fun _ h=>List.mem_of_mem_drop h,by simp,hb⟩
theorem sdue_any(v:Value)(l:List (Array Value))(now:Int)(X:Nat->Prop)(w:World)(h:Sl 2 v l X w)(hl: ∀r∈l,Ty vQ r)(hle:l.length<=10000000)(hX: ∀b,X b->b<w.heap.size):
  Calls Tryz.prog 87 #[v,.int .u64 now] w (DueR l X w):=by
 obtain⟨A,c,rfl,hlc,hcm⟩:=h.len;unfold maxLen at hcm;have H:=Lib.hid h;have HL:=Lib.hid hl;clear h hl;go_enter Tryz.func87,Tryz.ntmps87;go_wp2_with fail
 go_loopw [6,10] (fun v i W=> ∃(k:Nat) (rows:List (Array Value)),k<=l.length/\i= .int .i64 k/\rows.length=k/\Hid (∀r∈rows,∃x:Int,r= #[.int .i64 x])/\Hid (W.ownsRow w.heap.size 3 1 v rows.length (yy rows))/\Hid (Below w.heap.size w W)) (fun _ i _=>l.length-(intOf i).toNat)
 case atStart=>exact⟨0,[],Nat.zero_le _,rfl,rfl,zj (fun r h=>by cases h),zj (World.ownsRow_nil _ _ _ _),zj (Below.refl _ _)⟩
 case round=>
  obtain⟨k,rows,hk,rfl,rfl,hR,hO,hB⟩:=hrel;obtain⟨A6,c6,rfl,hA6⟩:=yb hO.out;by_cases hlt:rows.length<l.length
  ·obtain⟨r,hr⟩: ∃r,l[rows.length]? =some r:=⟨l[rows.length],List.getElem?_eq_getElem hlt⟩
   obtain⟨tx,px,rfl⟩:=alarm_lit (HL.out r (List.mem_of_getElem? hr));have HSw:=Lib.hid ((zb _ _ _).step H.out (Only.of_below hB.out));obtain⟨b,o,rfl,hbs,_,_,hcell⟩:=HSw.out.row hr (by decide);have e0:=hcell 0 _ rfl;have e1:=hcell 1 _ rfl;simp only[Nat.add_zero] at e0;have HR:=Lib.hid hr;clear hcell hr;by_cases hlate:now<tx
   ·go_upto_region 8 with fail
    refine qu (s:=7) (n:=7) (fun W=>Below wr.heap.size wr W) (by kernel_rfl) rfl (Only.drew (M:=fun _=>False) wr).below (fun W hS=> ?_);refine zq [(0,some 29,[]),(1,some 30,[]),(2,some 31,[]),(3,some 32,[]),(4,some 33,[]),(5,some 4,[]),(6,some 5,[])] [?v1_0,?v1_1,?v1_2,?v1_3,?v1_4,?v1_5,?v1_6] 0 (by kernel_rfl) hS ?l1 ?h1;case l1=>
     intro w' hSw;refine zu rfl rfl (by rfl) ?_ ?_
     ·go_simp
      try(with_reducible rfl)
     try simp only[Act.put,tS,t0,t1]
     refine zu rfl rfl (by rfl) ?_ ?_
     ·go_simp
      try(with_reducible rfl)
     try simp only[Act.put,tS,t0,t1]
     refine zu rfl rfl (by rfl) ?_ ?_
     ·go_simp
      try(with_reducible rfl)
     try simp only[Act.put,tS,t0,t1]
     refine zu rfl rfl (by rfl) ?_ ?_
     ·go_simp
      try(with_reducible rfl)
     try simp only[Act.put,tS,t0,t1]
     refine zu rfl rfl (by rfl) ?_ ?_
     ·go_simp
      try(with_reducible rfl)
     try simp only[Act.put,tS,t0,t1]
     refine zu rfl rfl (by rfl) ?_ ?_
     ·go_simp
      try(with_reducible rfl)
     try simp only[Act.put,tS,t0,t1]
     refine zu rfl rfl (by rfl) ?_ ?_
     ·go_simp
      try(with_reducible rfl)
     try simp only[Act.put,tS,t0,t1]
     trivial
    simp only[zw,zk,Act.put,tS,t0,t1];refine zv (by kernel_rfl) ?_ _;go_wp2_with fail
    go_ret2
    have HW:=Lib.hid ((zb _ _ _).step H.out (Only.of_below (hB.out.trans (hS.mono hB.out.size))));exact due_end HW.out (HW.out.from hk) hX (gy hO.out hS) hR.out hk (hB.out.trans (hS.mono hB.out.size))
   ·go_wp2_with(first|(refine yQ elInt rfl rfl rfl rfl rfl (by decide) (by decide) ?_;intro W1 hk1 hb1 hz1)|(refine yO elInt (by decide) rfl (.tmp 20) (.tmp 26) rfl w.heap.size _ rows rfl (gy hO.out hb1) (fun _=>False) _ [#[.int .i64 px]] rfl (qU hk1 rfl (Nat.le_refl 1) (by unfold maxLen;omega)) (by intro r hr;simp at hr;subst hr;exact zm rfl) (by simp;omega) (by omega) (by have:=hB.out.size;omega) ?_;intro v' W2 hown2 hb2 hz2 _ _))
    go_roundw
    case rel=>exact⟨rows.length+1,rows++ [#[.int .i64 px]],by omega,by go_num,by simp,zj (fun r hr=>by rcases List.mem_append.1 hr with h|h;exact hR.out r h;simp at h;exact⟨_,h⟩),zj hown2,zj (hB.out.trans ((hb1.mono hB.out.size).trans hb2))⟩
    case measure=>simp[intOf];omega
  ·have hk2:Hid (rows.length=l.length):=zj (by omega)
   by_cases hc2:c=rows.length
   ·subst hc2
    go_upto_region 8 with fail
    refine qu (s:=7) (n:=7) (fun W=>Below wr.heap.size wr W) (by kernel_rfl) rfl (Only.drew (M:=fun _=>False) wr).below (fun W hS=> ?_);refine zq [(0,some 29,[]),(1,some 30,[]),(2,some 31,[]),(3,some 32,[]),(4,some 33,[]),(5,some 4,[]),(6,some 5,[])] [?v2_0,?v2_1,?v2_2,?v2_3,?v2_4,?v2_5,?v2_6] 0 (by kernel_rfl) hS ?l2 ?h2;case l2=>
     intro w' hSw;refine zu rfl rfl (by rfl) ?_ ?_
     ·go_simp
      try(with_reducible rfl)
     try simp only[Act.put,tS,t0,t1]
     refine zu rfl rfl (by rfl) ?_ ?_
     ·go_simp
      try(with_reducible rfl)
     try simp only[Act.put,tS,t0,t1]
     refine zu rfl rfl (by rfl) ?_ ?_
     ·go_simp
      try(with_reducible rfl)
     try simp only[Act.put,tS,t0,t1]
     refine zu rfl rfl (by rfl) ?_ ?_
     ·go_simp
      try(with_reducible rfl)
     try simp only[Act.put,tS,t0,t1]
     refine zu rfl rfl (by rfl) ?_ ?_
     ·go_simp
      try(with_reducible rfl)
     try simp only[Act.put,tS,t0,t1]
     refine zu rfl rfl (by rfl) ?_ ?_
     ·go_simp
      try(with_reducible rfl)
     try simp only[Act.put,tS,t0,t1]
     refine zu rfl rfl (by rfl) ?_ ?_
     ·go_simp
      try(with_reducible rfl)
     try simp only[Act.put,tS,t0,t1]
     trivial
    simp only[zw,zk,Act.put,tS,t0,t1];refine zv (by kernel_rfl) ?_ _;go_wp2_with fail
    go_ret2
    have HW:=Lib.hid ((zb _ _ _).step H.out (Only.of_below (hB.out.trans (hS.mono hB.out.size))));exact due_end HW.out (by have h9:=due_rest HW.out hk2.out (A':=A) (c':=0) (fun _=>rfl) (Nat.zero_le _);rw[show l.length-rows.length=0 by have:=hk2.out;omega] at h9;exact h9) hX (gy hO.out hS) hR.out hk (hB.out.trans (hS.mono hB.out.size))
   ·obtain⟨ba,rfl⟩: ∃ba,A=some ba:=by
     cases A with
     |none=>have:=sl_none H.out;have:=hk2.out;omega
     |some ba=>exact⟨ba,rfl⟩
    go_upto_region 8 with fail
    refine qu (s:=7) (n:=7) (fun W=>Below wr.heap.size wr W) (by kernel_rfl) rfl (Only.drew (M:=fun _=>False) wr).below (fun W hS=> ?_);refine zq [(0,some 29,[]),(1,some 30,[]),(2,some 31,[]),(3,some 32,[]),(4,some 33,[]),(5,some 4,[]),(6,some 5,[])] [?v3_0,?v3_1,?v3_2,?v3_3,?v3_4,?v3_5,?v3_6] 0 (by kernel_rfl) hS ?l3 ?h3;case l3=>
     intro w' hSw;refine zu rfl rfl (by rfl) ?_ ?_
     ·go_simp
      try(with_reducible rfl)
     try simp only[Act.put,tS,t0,t1]
     refine zu rfl rfl (by rfl) ?_ ?_
     ·go_simp
      try(with_reducible rfl)
     try simp only[Act.put,tS,t0,t1]
     refine zu rfl rfl (by rfl) ?_ ?_
     ·go_simp
      try(with_reducible rfl)
     try simp only[Act.put,tS,t0,t1]
     refine zu rfl rfl (by rfl) ?_ ?_
     ·go_simp
      try(with_reducible rfl)
     try simp only[Act.put,tS,t0,t1]
     refine zu rfl rfl (by rfl) ?_ ?_
     ·go_simp
      try(with_reducible rfl)
     try simp only[Act.put,tS,t0,t1]
     refine zu rfl rfl (by rfl) ?_ ?_
     ·go_simp
      try(with_reducible rfl)
     try simp only[Act.put,tS,t0,t1]
     refine zu rfl rfl (by rfl) ?_ ?_
     ·go_simp
      try(with_reducible rfl)
     try simp only[Act.put,tS,t0,t1]
     trivial
    simp only[zw,zk,Act.put,tS,t0,t1];refine zv (by kernel_rfl) ?_ _;go_wp2_with fail
    go_ret2
    have HW:=Lib.hid ((zb _ _ _).step H.out (Only.of_below (hB.out.trans (hS.mono hB.out.size))));exact due_end HW.out (due_rest HW.out hk2.out (fun h=>by cases h) (by unfold maxLen;omega)) hX (gy hO.out hS) hR.out hk (hB.out.trans (hS.mono hB.out.size))
theorem patch_part{cur r D:Array Value}{o j:Nat}(hc: ∀k,k<r.size->cur[o+k]? =r[k]?)(hj:j+D.size<=r.size)(ho:o+r.size<=cur.size):patch cur (o+j) D=patch cur o (patch r j D):=by
 have hps:(patch r j D).size=r.size:=yd _ _ _ hj;apply Array.ext_getElem?;intro i;by_cases h1:i<o
 ·rw[jw cur D (o+j) i (by omega) (by omega),jw cur _ o i h1 (by omega)]
 ·obtain⟨k,rfl⟩: ∃k,i=o+k:=⟨i-o,by omega⟩
  by_cases h2:k<r.size
  ·rw[Zt cur (patch r j D) o k (by omega) (by omega)]
   by_cases h3:k<j
   ·rw[jw cur D (o+j) (o+k) (by omega) (by omega),jw r D j k h3 (by omega),hc k h2]
   ·obtain⟨m,rfl⟩: ∃m,k=j+m:=⟨k-j,by omega⟩
    by_cases h4:m<D.size
    ·rw[<-Nat.add_assoc,Zt cur D (o+j) m h4 (by omega),Zt r D j m h4 (by omega)]
    ·rw[gU cur D (o+j) _ (by omega) (by omega),gU r D j _ (by omega) (by omega),hc _ h2]
  ·rw[gU cur D (o+j) _ (by omega) (by omega),gU cur _ o _ (by omega) (by omega)]
section
variable{w:World}{ops:Array Oper}{rest:List Oper}{o:Oper}{a:Act}{Q:Exit->Act->World->Prop}
theorem own_store_part{base e size n:Nat}{v:Value}{l:List (Array Value)}(hown:w.ownsRow base e size v n (yy l))(hs: ∀r∈l,r.size=size)(hn:l.length=n){i:Nat}{r:Array Value}(hi:l[i]? =some r){D:Array Value}{j:Nat}(hj:j+D.size<=size):
  ∃g cap cur,v= .slice (some ⟨g,0,none⟩) n cap/\base<=g/\Blk w g cur e/\i*size+j+D.size<=cur.size/\(w.setRow g (patch cur (i*size+j) D)).ownsRow base e size v n (yy (l.set i (patch r j D))):=by
 have hlt:i<n:=by have:=(List.getElem?_eq_some_iff.1 hi).1;omega
 have hrs:r.size=size:=hs r (List.mem_of_getElem? hi);have hps:(patch r j D).size=size:=by rw[yd _ _ _ (by omega)];exact hrs
 obtain⟨g,cap,cur,rfl,hbg,hg,hfit,hnew⟩:=own_store hown hs hn hlt hps;refine⟨g,cap,cur,rfl,hbg,hg,by omega,?_⟩;have e:patch cur (i*size+j) D=patch cur (i*size) (patch r j D):=by
  refine patch_part (fun k hk=> ?_) (by omega) (by omega);rcases hown.2 with⟨h0,_⟩|⟨g',cap',cur',h1,h2,h3,h4,h5,h6,h7⟩
  ·cases h0
  have eg:g'=g:=by
   have:=congrArg Value.ownBlock h1;exact(Option.some.inj this).symm
  subst eg;have ec:cur'=cur:=by
   have q:=h3.symm.trans hg;injection q with q;injection q with q
  subst ec;obtain⟨u,hu⟩: ∃u,r[k]? =some u:=⟨r[k],Array.getElem?_eq_getElem hk⟩;have hf:=flat_get hs hi hu;rw[<-h7] at hf;rw[hu];rw[List.getElem?_take] at hf;split at hf
  ·simpa using hf
  ·cases hf
 rw[e];exact hnew
theorem jq{base e size n:Nat}{v:Value}{l:List (Array Value)}(hown:w.ownsRow base e size v n (yy l))(hs: ∀r∈l,r.size=size)(hn:l.length=n)(i:Nat)(r:Array Value)(hi:l[i]? =some r)(j:Nat)(D:Array Value)(hj:j+D.size<=size)(h1:yZ D)
  (hgd:o.guard=none) {s x:Operand} {T:TypeId} (ho:o.op= .store T s x) {g off:Nat} (hg:v.ownBlock=some g) (hes:ev a s=some (.pointer (some ⟨g,off,none⟩))) (hoff:off=i*size+j) {u:Value} (hx:ev a x=some u) (hu:u.cells=D) (hsz:(sizeOf T).run Tryz.prog w= .ok D.size w)
  (h: ∀w',w'.ownsRow base e size v n (yy (l.set i (patch r j D)))->Below base w w'->w'.heap.size=w.heap.size->wpList Tryz.prog ops Q rest (a.put o.dst undef) w'):wpList Tryz.prog ops Q (o::rest) a w:=by
 subst hoff;obtain⟨g',cap',cur,hv',hbg,hk,hfit,hnew⟩:=own_store_part hown hs hn hi hj;have e1:g'=g:=by
  rw[hv'] at hg;exact Option.some.inj hg
 subst e1;refine wpList_plain hgd fun K hK=> ?_;have hst:=run_storeCells_at (P:=Tryz.prog) g' (i*size+j) e D.toList 0 cur w hk (by simpa using hfit) h1;simp only[Nat.add_zero,Array.length_toList] at hst;have hrun:(Instr.storeAt T (.pointer (some ⟨g',i*size+j,none⟩)) u).run Tryz.prog w= .ok () (w.setRow g' (patch cur (i*size+j) D)):=by
  simp[Instr.storeAt,Instr.sureAddr,storeVar,hsz,hu,hst,patch]
 unfold Oper.wp execOp;simp only[ho,xO hes,xO hx,hrun,Sem.run_bind,Sem.run_pure,Result.andThen_ok];exact hK _ _ (h _ hnew (vG (Below.refl _ _) hbg _) (by simp[World.setRow]))
end
end Go.Proofs.YtaccidkgnkmagaaGreatDoor.Top
