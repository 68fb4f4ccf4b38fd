/-
  Walks and laws of the whole machine: Table, Walk, KX, Concat, Turn. Conditions: each theorem names its own.
-/
import Derived.Test.YtaccidkgnkmagaaGreatDoorTs04
import Derived.Deep.DeepCutAuto
import Derived.Deep.CutBlock
set_option maxRecDepth 16000
set_option maxHeartbeats 12800000
set_option linter.unusedVariables false
set_option linter.unusedSimpArgs false
namespace Go.Proofs.YtaccidkgnkmagaaGreatDoor.Top
open Go.RowKit
section
variable{ops:Array Oper}{rest:List Oper}{o:Oper}{a:Act}{Q:Exit->Act->World->Prop}{w:World}
theorem wpList_rowOf{e t size bytes:Nat}(E:ElT e t size bytes)(hgd:o.guard=none)(s:Operand)(ho:o.op= .buildSlice t 1 #[(0,s)])(v:Value)(hs:a.eval s=v)(C:Array Value)(hv:v.cells=C)(hC:C.size=size)(hsz:0<size)(hsz2:size<=100)
  (h: ∀w',Blk w' w.heap.size C e->Below w.heap.size w w'->w'.heap.size=w.heap.size+1->wpList Tryz.prog ops Q rest (a.put o.dst (.slice (some ⟨w.heap.size,0,none⟩) 1 1)) w'):wpList Tryz.prog ops Q (o::rest) a w:=by
 refine wpList_plain hgd fun K hK=> ?_;have hrun:=run_rowOf (w:=w) E v C hv hC hsz hsz2;unfold Oper.wp execOp;simp only[ho,List.map_toArray,List.map_cons,List.map_nil,hs,hrun,Sem.run_bind,Sem.run_pure,Result.andThen_ok];exact hK _ _ (h _ (Zj w _ _) (xw w _) (by simp))
end
def zQ(r:Array Value)(j:Nat):Int:=match r[j]? with|some (.int _ x)=>x|_=>0
def zX(r:Array Value):Int:=zQ r 0
def ym(r:Array Value):Int:=zQ r 1
def qV(r:Array Value):Int:=zQ r 2
theorem xq{ks:List Kd}{r:Array Value}(h:Ty ks r)(j:Nat)(hk:ks[j]? =some .i64):r[j]? =some (.int .i64 (zQ r j)):=by
 obtain⟨x,hx,_⟩:=h.i64 j hk;simp[zQ,hx]
theorem ty_rng{ks:List Kd}{r:Array Value}(h:Ty ks r)(j:Nat)(hk:ks[j]? =some .i64): -9223372036854775808<=zQ r j/\zQ r j<=9223372036854775807:=by
 obtain⟨x,hx,hr⟩:=h.i64 j hk;simpa[zQ,hx] using hr
def xQ(x:Int)(r:Array Value):Bool:=zX r==x
def gtPid(x:Int)(r:Array Value):Bool:=decide (x<zX r)
theorem at1_any(r:Array Value)(b:Nat)(x:Int)(w:World)(hr:Ty yu r)(hb:b<w.heap.size)(hc:w.cell? ⟨b,0,none⟩=some (.int .i64 x)):
  Calls Tryz.prog 109 (#[.agg r]++ #[.pointer (some ⟨b,0,none⟩)]) w fun e w'=>e= .returned (.bool (xQ x r))/\Below w.heap.size w w':=by
 have e0:=xq hr 0 rfl;have hne:b≠w.heap.size:=by omega
 clear hr;go_enter Tryz.func109,Tryz.ntmps109;go_wp2_with(refine yf rfl 132 (.tmp 0) rfl _ rfl r rfl ?_;intro W1 hk1 hb1 hz1;obtain⟨c1,f1⟩:=hk1.rules;have g1:=(hb1.cell (p:=⟨b,0,none⟩) hb).trans hc)
 go_ret
 exact⟨rfl,hb1⟩
theorem put1_any(r q:Array Value)(b:Nat)(w:World)(hr:Ty yu r)(hq:Ty yu q)(hb:b<w.heap.size)(hc:w.cell? ⟨b,0,none⟩=q[0]?):
  Calls Tryz.prog 83 (#[.agg r]++ #[.pointer (some ⟨b,0,none⟩)]) w fun e w'=>e= .returned (.bool (gtPid (zX q) r))/\Below w.heap.size w w':=by
 have e0:=xq hr 0 rfl;rw[xq hq 0 rfl] at hc;have hne:b≠w.heap.size:=by omega
 clear hr hq;go_enter Tryz.func83,Tryz.ntmps83;go_wp2_with(refine yf rfl 132 (.tmp 0) rfl _ rfl r rfl ?_;intro W1 hk1 hb1 hz1;obtain⟨c1,f1⟩:=hk1.rules;have g1:=(hb1.cell (p:=⟨b,0,none⟩) hb).trans hc)
 go_ret
 exact⟨rfl,hb1⟩
theorem isFn109:Zp Tryz.prog 109:=⟨_,Tryz.func109,by kernel_rfl,by kernel_rfl⟩
theorem isFn83:Zp Tryz.prog 83:=⟨_,Tryz.func83,by kernel_rfl,by kernel_rfl⟩
theorem first_any(v:Value)(l:List (Array Value))(fv:Value)(p:Array Value->Bool)(X:Nat->Prop)(w:World)(h:Sl 26 v l X w)(base:Nat)(hbase:base<=w.heap.size)(hp:Zv fv l p base w):
  Calls Tryz.prog 82 #[v,fv] w fun e w'=>e= .returned (.int .i64 (jx p l))/\Below w.heap.size w w':=by
 have H:=Lib.hid h;have HP:=Lib.hid hp;clear h hp;go_enter Tryz.func82,Tryz.ntmps82;go_wp2_with fail;refine(idxProc_any _ _ _ p X _ H.out base hbase HP.out).mono ?_;rintro e w1 ⟨rfl,hb⟩;go_wp2_with fail
 go_ret
 exact⟨rfl,hb⟩
theorem at_any(v:Value)(l:List (Array Value))(x:Int)(X:Nat->Prop)(w:World)(h:Sl 26 v l X w)(hl: ∀r∈l,Ty yu r):
  Calls Tryz.prog 81 #[v,.int .i64 x] w fun e w'=>e= .returned (.int .i64 (jx (xQ x) l))/\Below w.heap.size w w':=by
 have H:=Lib.hid h;have HL:=Lib.hid hl;clear h hl;go_enter Tryz.func81,Tryz.ntmps81;go_wp2_with(refine yf rfl 3 (.tmp 1) rfl _ rfl #[.int .i64 x] rfl ?_;intro W1 hk1 hb1 hz1);have hlt:w.heap.size<W1.heap.size:=by omega
 refine(first_any v l _ (xQ x) X W1 ((zb _ _ _).step H.out (Only.of_below hb1)) W1.heap.size (Nat.le_refl _) ⟨109,#[.pointer (some ⟨w.heap.size,0,none⟩)],rfl,isFn109,fun r hr W hW=>at1_any r _ x W (HL.out r hr) (Nat.lt_of_lt_of_le hlt hW.size) ?_⟩).mono ?_
 ·exact(hW.cell (p:=⟨w.heap.size,0,none⟩) hlt).trans (hk1.rules.1 0)
 rintro e w2 ⟨rfl,hb2⟩;go_wp2_with fail
 go_ret
 exact⟨rfl,hb1.trans (hb2.mono (by omega))⟩
def FindR(l:List (Array Value))(x:Int)(w:World)(e:Ending)(w':World):Prop:=
 ∃(r:Array Value) (b:Bool),e= .returned (.tuple #[.agg r,.bool b])/\Ty yu r/\(b=true->r∈l/\zX r=x)/\(b=false->(∀q∈l,zX q≠x)/\zX r=0/\ym r=0/\qV r=0/\r[12]? =some (.string ⟨#[]⟩)/\(∀j,j<8->zQ r (14+j)=0))/\Below w.heap.size w w'
def gO:Array Value:= #[.int .i64 0,.int .i64 0,.int .i64 0,.int .u32 0,.int .u32 0,.int .u32 0,.int .u32 0,.int .u32 0,.int .u32 0,.int .u32 0,.int .u32 0,.int .u32 0,.string ⟨#[]⟩,.int .i64 0,.int .i64 0,.bool false,.int .i64 0,.bool false,.int .i64 0,.bool false,.int .i64 0,.bool false,.int .u32 0,.int .u32 0,.int .u32 0,.int .u32 0]
theorem zProc_ty:Ty yu gO:=by
 simp only[Ty,gO,yu,TyL];refine⟨?_,?_,?_,?_,?_,?_,?_,?_,?_,?_,?_,?_,?_,?_,?_,?_,?_,?_,?_,?_,?_,?_,?_,?_,?_,?_,trivial⟩<;>first|exact⟨_,rfl,by omega,by omega⟩|exact⟨_,rfl⟩|exact⟨_,rfl,by simp[ByteArray.size]⟩
theorem idxOf_isPid{l:List (Array Value)}{x:Int}(h:jx (xQ x) l= -1): ∀q∈l,zX q≠x:=by
 intro q hq e;unfold jx at h;cases hf:l.findIdx? (xQ x) with
 |none=>
  rw[List.findIdx?_eq_none_iff] at hf;have:=hf q hq;simp[xQ,e] at this
 |some i=>rw[hf] at h;simp at h
theorem jk(v:Value)(l:List (Array Value))(x:Int)(X:Nat->Prop)(w:World)(h:Sl 26 v l X w)(hl: ∀r∈l,Ty yu r):
  Calls Tryz.prog 88 #[v,.int .i64 x] w (FindR l x w):=by
 obtain⟨A,c,rfl,hlc,hcm⟩:=h.len;have hlm:l.length<=9223372036854775807:=Nat.le_trans hlc hcm;have H:=Lib.hid h;have HL:=Lib.hid hl;clear h hl hlc hcm;rcases qG (xQ x) l with⟨hi,_⟩|⟨i,hi,hlt,_,r,hr,hpr⟩
 ·have HI:=Lib.hid hi
  have HN:=Lib.hid (idxOf_isPid hi);clear hi;go_enter Tryz.func88,Tryz.ntmps88;go_wp2_with(refine yJ rfl 132 rfl _ (Tryz.zeroValue132 _) ?_;intro W1 hk1 hb1 hz1);refine(at_any _ l x X W1 ((zb _ _ _).step H.out (Only.of_below hb1)) HL.out).mono ?_;rintro e w2 ⟨rfl,hb2⟩;rw[HI.out];have hk2:=hk1.below hb2;have hlt2:w.heap.size<w2.heap.size:=hk2.lt;go_wp2_with(refine yX rfl (.tmp 4) (.tmp 12) 132 rfl w.heap.size 0 rfl gO 132 hk2 _ rfl gO rfl (Tryz.sizeOf132 _) (by decide) zProc_ty.one ?_;intro W3 hk3 hb3 hz3 hg3;rw[xU gO gO rfl] at hk3);have hld:=qJ (P:=Tryz.prog) (w:=W3) 132 w.heap.size 26 gO 132 (Tryz.isAgg132 _) (Tryz.sizeOf132 _) rfl hk3;exact bodyPost_ret (yh rfl _ rfl rfl hld) rfl ⟨gO,false,rfl,zProc_ty,(fun h=>by cases h),fun _=>⟨HN.out,rfl,rfl,rfl,rfl,fun j hj=>by match j,hj with|0,_=>rfl|1,_=>rfl|2,_=>rfl|3,_=>rfl|4,_=>rfl|5,_=>rfl|6,_=>rfl|7,_=>rfl⟩,hb1.trans ((hb2.mono (by omega)).trans hb3)⟩
 ·have hrt:=HL.out r (List.mem_of_getElem? hr)
  have hrs:r.size=26:=hrt.size;have HR:=Lib.hid hr;have HT:=Lib.hid hrt;have HP:=Lib.hid hpr;have HI:=Lib.hid hi;have hi1:((i:Int)<0)=False:=by rw[eq_iff_iff,iff_false];omega
  clear hr hrt hpr hi;go_enter Tryz.func88,Tryz.ntmps88;go_wp2_with(refine yJ rfl 132 rfl _ (Tryz.zeroValue132 _) ?_;intro W1 hk1 hb1 hz1);refine(at_any _ l x X W1 ((zb _ _ _).step H.out (Only.of_below hb1)) HL.out).mono ?_;rintro e w2 ⟨rfl,hb2⟩;rw[HI.out];have hk2:=hk1.below hb2;have hlt2:w.heap.size<w2.heap.size:=hk2.lt;have hS2:=(zb _ _ _).step H.out (Only.of_below (hb1.trans (hb2.mono (by omega))));obtain⟨b,o,rfl,hbs,_,_,hcell⟩:=hS2.row HR.out (by decide);have HC:=Lib.hid hcell;clear hcell hS2;go_wp2_with(first|(refine zZ rfl (.tmp 15) 132 rfl b _ 26 rfl r (Tryz.isAgg132 _) (Tryz.sizeOf132 _) hrs (fun j u hj=>by have:=HC.out j u hj;simpa using this) ?_)|(refine yX rfl (.tmp 4) (.tmp 16) 132 rfl w.heap.size 0 rfl _ 132 hk2 _ rfl r rfl (by rw[hrs];exact Tryz.sizeOf132 _) (by rw[hrs];decide) HT.out.one ?_;intro W3 hk3 hb3 hz3 hg3));rw[xU _ _ (by rw[hrs];rfl)] at hk3;have hld:=qJ (P:=Tryz.prog) (w:=W3) 132 w.heap.size 26 r 132 (Tryz.isAgg132 _) (Tryz.sizeOf132 _) hrs hk3;exact bodyPost_ret (yh rfl _ rfl rfl hld) rfl ⟨r,true,rfl,HT.out,fun _=>⟨List.mem_of_getElem? HR.out,by simpa[xQ] using HP.out⟩,(fun h=>by cases h),hb1.trans ((hb2.mono (by omega)).trans hb3)⟩
theorem elInts:ElT 43 217 1 24:=jI Tryz.underlying217 (by kernel_rfl)
def ev(a:Act):Operand->Option Value
 | .tmp t=>a.tmps.toList[t]?
 | .const v=>some v
 | .global g=>some (.pointer (some ⟨g,0,none⟩))
 | .func f=>some (.func (.func f) #[] #[])
theorem xO{a:Act}{s:Operand}{v:Value}(h:ev a s=some v):a.eval s=v:=by
 cases s with
 |tmp t=>
  simp only[ev] at h;simp only[Act.eval];have h2:a.tmps[t]? =some v:=by simpa using h
  simp[h2]
 |const u=>exact Option.some.inj h
 |global g=>exact Option.some.inj h
 |func f=>exact Option.some.inj h
section
variable{P:Program}{ops:Array Oper}{rest:List Oper}{a:Act}{w:World}{Q:Exit->Act->World->Prop}{d:Option Tmp}{ty:TypeId}{pos:String}{af:Array Edge}
theorem zz{T:TypeId}{s:Operand}(h:wpList P ops Q (⟨d,.load T s,ty,pos,af,none⟩::rest) a w):wpList P ops Q (⟨d,.load T s,ty,pos,af,none⟩::rest) a w:=h
theorem zp{op:Op}{g:Nat×Bool}(h:wpList P ops Q (⟨d,op,ty,pos,af,some g⟩::rest) a w):wpList P ops Q (⟨d,op,ty,pos,af,some g⟩::rest) a w:=h
theorem guard_on{op:Op}{g:Nat×Bool}(hw:Region.wanted ⟨d,op,ty,pos,af,some g⟩ (yielded ops a.tmps)=true)(h:wpList P ops Q (⟨d,op,ty,pos,af,none⟩::rest) a w):wpList P ops Q (⟨d,op,ty,pos,af,some g⟩::rest) a w:=by
 unfold wpList at h⊢;rw[if_pos hw];have hn:Region.wanted (⟨d,op,ty,pos,af,none⟩:Oper) (yielded ops a.tmps)=true:=rfl;rw[if_pos hn] at h;exact h
theorem zg{op:Op}{j:Nat}{want:Bool}{o':Oper}{dj:Nat}{u:Value}(h1:ops.toList[j]? =some o')(h2:o'.dst=some dj)(h3:a.tmps.toList[dj]? =some u)(h4:u= .bool want)
  (h:wpList P ops Q (⟨d,op,ty,pos,af,none⟩::rest) a w):wpList P ops Q (⟨d,op,ty,pos,af,some (j,want)⟩::rest) a w:=by
 refine guard_on ?_ h;have e1:ops[j]? =some o':=by simpa using h1
 have e3:a.tmps[dj]? =some (.bool want):=by rw[<-h4];simpa using h3
 simp[Region.wanted,yielded,e1,h2,e3]
theorem zx{T:TypeId}{s x:Operand}(h:wpList P ops Q (⟨d,.store T s x,ty,pos,af,none⟩::rest) a w):wpList P ops Q (⟨d,.store T s x,ty,pos,af,none⟩::rest) a w:=h
theorem zI{T:TypeId}{s:Operand}(h:wpList P ops Q (⟨d,.box T s,ty,pos,af,none⟩::rest) a w):wpList P ops Q (⟨d,.box T s,ty,pos,af,none⟩::rest) a w:=h
theorem zf{T:TypeId}(h:wpList P ops Q (⟨d,.alloc T,ty,pos,af,none⟩::rest) a w):wpList P ops Q (⟨d,.alloc T,ty,pos,af,none⟩::rest) a w:=h
theorem qY{T:TypeId}{n:Nat}{ps:Array (Nat×Operand)}(h:wpList P ops Q (⟨d,.buildSlice T n ps,ty,pos,af,none⟩::rest) a w):wpList P ops Q (⟨d,.buildSlice T n ps,ty,pos,af,none⟩::rest) a w:=h
theorem jZ{b:Builtin}{xs:Array Operand}{ts:Array TypeId}(h:wpList P ops Q (⟨d,.call ⟨.builtin b,xs,ts⟩,ty,pos,af,none⟩::rest) a w):wpList P ops Q (⟨d,.call ⟨.builtin b,xs,ts⟩,ty,pos,af,none⟩::rest) a w:=h
end
section
variable{M X0 X:Nat->Prop}{w0 w:World}{bs:List (Nat×Array Value×TypeId)}{G:(Nat->Prop)->World->Prop}
variable{P:Program}{ops:Array Oper}{rest:List Oper}{o:Oper}{a:Act}{Q:Exit->Act->World->Prop}
theorem yt(k:Hid (St M X0 w0 bs G X w))(hgd:o.guard=none){T:TypeId}{s:Operand}(ho:o.op= .box T s){C:Array Value}(hs:ev a s=some (.agg C))
  (h: ∀b X' w',Hid (St M X0 w0 ((b,C,T)::bs) G X' w')->wpList P ops Q rest (a.put o.dst (.pointer (some ⟨b,0,none⟩))) w'):wpList P ops Q (o::rest) a w:=
 wpList_box_st k.out hgd T s ho (.agg C) (xO hs) h
theorem st_box_one(k:Hid (St M X0 w0 bs G X w))(hgd:o.guard=none){T:TypeId}{s:Operand}(ho:o.op= .box T s){v:Value}(hs:ev a s=some (v))(hv:v.oneCell'=true)
  (h: ∀b X' w',Hid (St M X0 w0 ((b,#[v],T)::bs) G X' w')->wpList P ops Q rest (a.put o.dst (.pointer (some ⟨b,0,none⟩))) w'):wpList P ops Q (o::rest) a w:=
 wpList_box_st k.out hgd T s ho v (xO hs) (fun b X' w' k'=>h b X' w' (by rw[gu hv] at k';exact k'))
theorem zG(k:Hid (St M X0 w0 bs G X w))(hgd:o.guard=none){T:TypeId}(ho:o.op= .alloc T){C:Array Value}(hz:(zeroValue T).run P w= .ok (.agg C) w)
  (h: ∀b X' w',Hid (St M X0 w0 ((b,C,T)::bs) G X' w')->wpList P ops Q rest (a.put o.dst (.pointer (some ⟨b,0,none⟩))) w'):wpList P ops Q (o::rest) a w:=by
 refine wpList_plain hgd fun K hK=> ?_;have hrun:(Instr.alloc T true (.tuple #[])).run P w= .ok (.pointer (some ⟨w.heap.size,0,none⟩)) (w.alloc (.cells C T)):=by
  simp[Instr.alloc,hz,go_sem]
 unfold Oper.wp execOp;simp only[ho,hrun,Sem.run_bind,Sem.run_pure,Result.andThen_ok];exact hK _ _ (h _ _ _ (k.out.new C T))
theorem st_alloc_one(k:Hid (St M X0 w0 bs G X w))(hgd:o.guard=none){T:TypeId}(ho:o.op= .alloc T){v:Value}(hz:(zeroValue T).run P w= .ok v w)(hv:v.oneCell'=true)
  (h: ∀b X' w',Hid (St M X0 w0 ((b,#[v],T)::bs) G X' w')->wpList P ops Q rest (a.put o.dst (.pointer (some ⟨b,0,none⟩))) w'):wpList P ops Q (o::rest) a w:=by
 refine wpList_plain hgd fun K hK=> ?_;have hrun:(Instr.alloc T true (.tuple #[])).run P w= .ok (.pointer (some ⟨w.heap.size,0,none⟩)) (w.alloc (.cells #[v] T)):=by
  have e:=gu hv;have h1:(Instr.alloc T true (.tuple #[])).run P w= .ok (.pointer (some ⟨w.heap.size,0,none⟩)) (w.alloc (.cells v.cells T)):=by simp[Instr.alloc,hz,go_sem]
  rw[h1,e]
 unfold Oper.wp execOp;simp only[ho,hrun,Sem.run_bind,Sem.run_pure,Result.andThen_ok];exact hK _ _ (h _ _ _ (k.out.new #[v] T))
theorem patch_one(C:Array Value)(j:Nat)(v:Value)(hj:j<C.size):patch C j #[v]=C.setIfInBounds j v:=by
 apply Array.ext_getElem?;intro i;rcases Nat.lt_trichotomy i j with h|rfl|h
 ·rw[jw C #[v] j i h (by omega),Array.getElem?_setIfInBounds_ne (by omega)]
 ·have:=Zt C #[v] i 0 (by simp) (by omega)
  rw[Nat.add_zero] at this;rw[this,Array.getElem?_setIfInBounds_self_of_lt hj];rfl
 ·rw[gU C #[v] j i (by simp;omega) (by omega),Array.getElem?_setIfInBounds_ne (by omega)]
theorem st_store_one(k:Hid (St M X0 w0 bs G X w))(i:Nat)(hgd:o.guard=none){s x:Operand}{T:TypeId}(ho:o.op= .store T s x){b off:Nat}(hs:ev a s=some (.pointer (some ⟨b,off,none⟩))){v:Value}(hx:ev a x=some (v))(hv:v.oneCell'=true)
  {C:Array Value} {t:TypeId} (hi:bs[i]? =some (b,C,t)) (hsz:(sizeOf T).run P w= .ok 1 w) (hfit:Nat.blt off C.size=true)
  (h: ∀w',Hid (St M X0 w0 (bs.set i (b,C.setIfInBounds off v,t)) G X w')->wpList P ops Q rest (a.put o.dst undef) w'):wpList P ops Q (o::rest) a w:=
 gj k.out i hgd s x T ho b off (xO hs) #[v] v (xO hx) (gu hv) C t hi hsz (by have h5:off<C.size:=(by rw[Nat.blt_eq] at hfit;exact hfit);simp;omega) (by intro u hu;simp at hu;subst hu;exact hv) (fun w' k'=>h w' (by rw[patch_one C off v ((by rw[Nat.blt_eq] at hfit;exact hfit))] at k';exact k'))
theorem yl(k:Hid (St M X0 w0 bs G X w))(i:Nat)(hgd:o.guard=none){s x:Operand}{T:TypeId}(ho:o.op= .store T s x){b:Nat}(hs:ev a s=some (.pointer (some ⟨b,0,none⟩))){D:Array Value}(hx:ev a x=some (.agg D))
  {C:Array Value} {t:TypeId} (hi:bs[i]? =some (b,C,t)) {n:Nat} (hsz:(sizeOf T).run P w= .ok n w) (hn:D.size=n) (hC:C.size=n) (h1:yZ D)
  (h: ∀w',Hid (St M X0 w0 (bs.set i (b,D,t)) G X w')->wpList P ops Q rest (a.put o.dst undef) w'):wpList P ops Q (o::rest) a w:=
 gj k.out i hgd s x T ho b 0 (xO hs) D (.agg D) (xO hx) rfl C t hi (by rw[hn];exact hsz) (by omega) h1 (fun w' k'=>h w' (by rw[xU C D (by omega)] at k';exact k'))
theorem xm(k:Hid (St M X0 w0 bs G X w))(i:Nat)(hgd:o.guard=none){s x:Operand}{T:TypeId}(ho:o.op= .store T s x){b off:Nat}(hs:ev a s=some (.pointer (some ⟨b,off,none⟩))){D:Array Value}(hx:ev a x=some (.agg D))
  {C:Array Value} {t:TypeId} (hi:bs[i]? =some (b,C,t)) {n:Nat} (hsz:(sizeOf T).run P w= .ok n w) (hn:D.size=n) (hC:off+n<=C.size) (h1:yZ D)
  (h: ∀w',Hid (St M X0 w0 (bs.set i (b,patch C off D,t)) G X w')->wpList P ops Q rest (a.put o.dst undef) w'):wpList P ops Q (o::rest) a w:=
 gj k.out i hgd s x T ho b off (xO hs) D (.agg D) (xO hx) rfl C t hi (by rw[hn];exact hsz) (by omega) h1 h
theorem st_load_all(k:Hid (St M X0 w0 bs G X w))(i:Nat)(hgd:o.guard=none){s:Operand}{T:TypeId}(ho:o.op= .load T s){b:Nat}(hs:ev a s=some (.pointer (some ⟨b,0,none⟩))){C:Array Value}{t:TypeId}(hi:bs[i]? =some (b,C,t))
  (hagg:(isAgg T).run P w= .ok true w) {n:Nat} (hsz:(sizeOf T).run P w= .ok n w) (hC:C.size=n) (h:wpList P ops Q rest (a.put o.dst (.agg C)) w):wpList P ops Q (o::rest) a w:=
 wpList_load_st k.out i hgd s T ho b 0 n (xO hs) C t hi hagg hsz C (by simp[<-hC]) (by omega) h
theorem st_load_one(k:Hid (St M X0 w0 bs G X w))(i:Nat)(hgd:o.guard=none){s:Operand}{T:TypeId}(ho:o.op= .load T s){b off:Nat}(hs:ev a s=some (.pointer (some ⟨b,off,none⟩))){C:Array Value}{t:TypeId}(hi:bs[i]? =some (b,C,t))
  (hagg:(isAgg T).run P w= .ok false w) {v:Value} (hv:C[off]? =some v) (h:wpList P ops Q rest (a.put o.dst v) w):wpList P ops Q (o::rest) a w:=by
 refine wpList_plain hgd fun K hK=> ?_;have hrun:(Instr.loadAt T (.pointer (some ⟨b,off,none⟩))).run P w= .ok v w:=by
  have hc:w.cell? ⟨b,off,none⟩=some v:=((k.out.rules hi).1 off).trans hv;simp[Instr.loadAt,Instr.sureAddr,loadVar,hagg,hc]
 unfold Oper.wp execOp;simp only[ho,(xO hs),hrun,Sem.run_bind,Sem.run_pure,Result.andThen_ok];exact hK _ _ h
theorem zm{C:Array Value}(h:(C.toList.all fun v=>v.oneCell')=true):yZ C:=fun v hv=>List.all_eq_true.1 h v hv
theorem zY(k:St M X0 w0 bs G X w)(i:Nat){b:Nat}{C:Array Value}{t:TypeId}(hi:bs[i]? =some (b,C,t))(T:TypeId){n:Nat}(hagg:(isAgg T).run P w= .ok true w)(hsz:(sizeOf T).run P w= .ok n w)(hn:C.size=n):
  (loadVar T ⟨b,0,none⟩).run P w= .ok (.agg C) w:=qJ T b n C t hagg hsz hn (k.blk hi)
end
section
variable{M X0 X:Nat->Prop}{w0 w:World}{bs:List (Nat×Array Value×TypeId)}{G:(Nat->Prop)->World->Prop}
variable{ops:Array Oper}{rest:List Oper}{o:Oper}{a:Act}{Q:Exit->Act->World->Prop}
theorem qp(k:Hid (St M X0 w0 bs G X w)){e t size bytes:Nat}(E:ElT e t size bytes)(hgd:o.guard=none){s:Operand}(ho:o.op= .buildSlice t 1 #[(0,s)]){v:Value}(hs:ev a s=some (v)){C:Array Value}(hv:v.cells=C)(hC:C.size=size)(hsz:0<size)(hsz2:size<=100)
  (h: ∀b X' w',Hid (St M X0 w0 ((b,C,e)::bs) G X' w')->wpList Tryz.prog ops Q rest (a.put o.dst (.slice (some ⟨b,0,none⟩) 1 1)) w'):wpList Tryz.prog ops Q (o::rest) a w:=by
 refine wpList_plain hgd fun K hK=> ?_;have hrun:=run_rowOf (w:=w) E v C hv hC hsz hsz2;unfold Oper.wp execOp;simp only[ho,List.map_toArray,List.map_cons,List.map_nil,(xO hs),hrun,Sem.run_bind,Sem.run_pure,Result.andThen_ok];exact hK _ _ (h _ _ _ (k.out.new C e))
theorem xV(hgd:o.guard=none){s:Operand}{T:TypeId}(ho:o.op= .load T s){size n c:Nat}{A:Option Addr}{l:List (Array Value)}{Y:Nat->Prop}(hl:Sl size (.slice A n c) l Y w){i:Nat}{r:Array Value}(hr:l[i]? =some r)(h0:0<size)
  {b off:Nat} (hs:ev a s=some (.pointer (some ⟨b,off,none⟩))) (hb: ∃o',A=some ⟨b,o',none⟩/\off=o'+i*size) (hagg:(isAgg T).run Tryz.prog w= .ok true w) (hsz:(sizeOf T).run Tryz.prog w= .ok size w)
  (h:wpList Tryz.prog ops Q rest (a.put o.dst (.agg r)) w):wpList Tryz.prog ops Q (o::rest) a w:=by
 obtain⟨b',o'',e1,_,_,hrs,hc⟩:=hl.row hr h0;obtain⟨o',e2,rfl⟩:=hb;rw[e1] at e2;injection e2 with e2;injection e2 with e3 e4;subst e3 e4;exact zZ hgd s T ho b' _ size (xO hs) r hagg hsz hrs (fun j u hj=>hc j u hj) h
theorem qx(hgd:o.guard=none){s:Operand}{T:TypeId}(ho:o.op= .load T s){n c:Nat}{A:Option Addr}{l:List (Array Value)}{Y:Nat->Prop}(hl:Sl 1 (.slice A n c) l Y w){i:Nat}{v:Value}(hr:l[i]? =some #[v])
  {b off:Nat} (hs:ev a s=some (.pointer (some ⟨b,off,none⟩))) (hb: ∃o',A=some ⟨b,o',none⟩/\off=o'+i) (hagg:(isAgg T).run Tryz.prog w= .ok false w)
  (h:wpList Tryz.prog ops Q rest (a.put o.dst v) w):wpList Tryz.prog ops Q (o::rest) a w:=by
 obtain⟨b',o'',e1,_,_,hrs,hc⟩:=hl.row hr (by decide);obtain⟨o',e2,rfl⟩:=hb;rw[e1] at e2;injection e2 with e2;injection e2 with e3 e4;subst e3 e4;have h0:=hc 0 v rfl;simp only[Nat.mul_one,Nat.add_zero] at h0;refine wpList_plain hgd fun K hK=> ?_;have hrun:(Instr.loadAt T (.pointer (some ⟨b',o''+i,none⟩))).run Tryz.prog w= .ok v w:=by
  simp[Instr.loadAt,Instr.sureAddr,loadVar,hagg,h0]
 unfold Oper.wp execOp;simp only[ho,(xO hs),hrun,Sem.run_bind,Sem.run_pure,Result.andThen_ok];exact hK _ _ h
theorem st_rowOf2(k:Hid (St M X0 w0 bs G X w)){e t bytes:Nat}(E:ElT e t 1 bytes)(hgd:o.guard=none){s1 s2:Operand}(ho:o.op= .buildSlice t 2 #[(0,s1),(1,s2)]){v1 v2:Value}(hs1:ev a s1=some (v1))(hs2:ev a s2=some (v2))(h1:v1.oneCell'=true)(h2:v2.oneCell'=true)
  (h: ∀b X' w',Hid (St M X0 w0 ((b,#[v1,v2],e)::bs) G X' w')->wpList Tryz.prog ops Q rest (a.put o.dst (.slice (some ⟨b,0,none⟩) 2 2)) w'):wpList Tryz.prog ops Q (o::rest) a w:=by
 obtain⟨ht,f,z,hf,hz,hsE,hb1,hzs,hone⟩:=E;refine wpList_plain hgd fun K hK=> ?_;have e1:=gu h1;have e2:=gu h2;have hzv:(zeroValue e).run Tryz.prog w= .ok z w:=by simp[zeroValue,typeInfo,hf,hz]
 have hso:(sizeOf e).run Tryz.prog w= .ok 1 w:=by simp[sizeOf,typeInfo,hf,hsE]
 have hfill:Instr.fill (fun i=>some (i*1,1)) ((Array.range (2*1)).map fun i=>z.cells[i% z.cells.size]!) [(0,v1),(1,v2)]=some #[v1,v2]:=by
  have hD:((Array.range (2*1)).map fun i=>z.cells[i% z.cells.size]!).size=2:=by simp
  generalize ((Array.range (2*1)).map fun i=>z.cells[i% z.cells.size]!)=D at hD⊢;obtain⟨D⟩:=D
  match D,hD with
  |[_,_],_=>simp[Instr.fill,e1,e2]
 have hrun:(Instr.buildSlice t 2 #[(0,v1),(1,v2)]).run Tryz.prog w= .ok (.slice (some ⟨w.heap.size,0,none⟩) 2 2) (w.alloc (.cells #[v1,v2] e)):=by
  have hle: ¬(2^24<2*1):=by omega
  have h0: ¬(2*1=0):=by omega
  unfold Instr.buildSlice;simp only[run_underlying ht,Sem.run_bind,Result.andThen_ok,hso,gt_iff_lt,if_neg hle,if_neg h0,hzv,Sem.run_pure,hfill];simp[go_sem]
 unfold Oper.wp execOp;simp only[ho,List.map_toArray,List.map_cons,List.map_nil,(xO hs1),(xO hs2),hrun,Sem.run_bind,Sem.run_pure,Result.andThen_ok];exact hK _ _ (h _ _ _ (k.out.new #[v1,v2] e))
end
def Stay(M X0:Nat->Prop)(w0:World)(bs:List (Nat×Array Value×TypeId))(G:(Nat->Prop)->World->Prop)(W:World):Prop:= ∃X,St M X0 w0 bs G X W
theorem Stay.cell{M X0:Nat->Prop}{w0 W:World}{bs:List (Nat×Array Value×TypeId)}{G:(Nat->Prop)->World->Prop}(h:Stay M X0 w0 bs G W)(i:Nat){b:Nat}{C:Array Value}{t:TypeId}(hi:bs[i]? =some (b,C,t)): ∀j,W.cell? ⟨b,j,none⟩=C[j]? :=by
 obtain⟨X,h⟩:=h;exact(h.rules hi).1
theorem Stay.load{P:Program}{M X0:Nat->Prop}{w0 W:World}{bs:List (Nat×Array Value×TypeId)}{G:(Nat->Prop)->World->Prop}(h:Stay M X0 w0 bs G W)(i:Nat){b:Nat}{C:Array Value}{t:TypeId}(hi:bs[i]? =some (b,C,t))(T:TypeId){n:Nat}(hagg:(isAgg T).run P W= .ok true W)(hsz:(sizeOf T).run P W= .ok n W)(hn:C.size=n):
  (loadVar T ⟨b,0,none⟩).run P W= .ok (.agg C) W:=by
 obtain⟨X,h⟩:=h;exact zY h i hi T hagg hsz hn
theorem zt{P:Program}{Q:Exit->Act->World->Prop}{M X0 X:Nat->Prop}{w0 w:World}{bs:List (Nat×Array Value×TypeId)}{G:(Nat->Prop)->World->Prop}{id:Nat}{l:List Oper}{a:Act}(k:Hid (St M X0 w0 bs G X w))(s n:Nat)(hm:P.follows .mixedOrders=true)(hn:l.length=n)
  (h: ∀W,Hid (St M X0 w0 bs G X W)->qg P .any l.toArray (NoPanic Q) (Stay M X0 w0 bs G) s n (Array.replicate n false) a W):(Code.region id l.toArray true).wp P Q a w:=by
 refine wp_region_noPanic (wp_region_any hm (gX (S:=Stay M X0 w0 bs G) (s:=s) _ _ _ _ ?_));subst hn;have:=h _ k.out.drew;simpa using this
theorem sl_empty(size:Nat)(b:Addr)(c:Nat)(hc:c<=maxLen)(X:Nat->Prop)(W:World):Sl size (.slice (some b) 0 c) [] X W:=
 ⟨some b,c,rfl,⟨by simp[yy],Nat.zero_le _,hc,(fun h=>by cases h),fun _ _=>⟨fun h=>absurd h (Nat.lt_irrefl 0),fun j u hu=>by simp[yy] at hu⟩⟩,(fun _ h=>by cases h),fun _ _ h=>absurd h (Nat.lt_irrefl 0)⟩
theorem Sl.upto{size n c:Nat}{A:Option Addr}{l:List (Array Value)}{X:Nat->Prop}{W:World}(h:Sl size (.slice A n c) l X W){i:Nat}(hi:i<=n):Sl size (.slice A i c) (l.take i) X W:=by
 obtain⟨A',c',e,hr,hs,hA⟩:=h;injection e with e1 e2 e3;subst e1 e2 e3;obtain⟨h1,h2,h3,h4,h5⟩:=hr;have hl:(l.take i).length=i:=by rw[List.length_take,Nat.min_eq_left hi]
 have hs': ∀r∈l.take i,r.size=size:=fun r hr=>hs r (List.mem_of_mem_take hr);refine⟨A,c,by rw[hl],⟨by rw[xz hs'],by omega,h3,h4,fun b hb=>⟨fun hn=>(h5 b hb).1 (by omega),fun j u hu=>(h5 b hb).2 j u ?_⟩⟩,hs',fun b hb hn=>hA b hb (by omega)⟩;rw[<-vJ hs i hi,List.getElem?_take] at hu;split at hu
 ·exact hu
 ·cases hu
theorem Sl.from{size n c:Nat}{b o:Nat}{l:List (Array Value)}{X:Nat->Prop}{W:World}(h:Sl size (.slice (some ⟨b,o,none⟩) n c) l X W){i:Nat}(hi:i<=n):Sl size (.slice (some ⟨b,o+i*size,none⟩) (n-i) (c-i)) (l.drop i) X W:=by
 obtain⟨A',c',e,hr,hs,hA⟩:=h;injection e with e1 e2 e3;subst e1 e2 e3;obtain⟨h1,h2,h3,h4,h5⟩:=hr;have hl:(l.drop i).length=l.length-i:=by rw[List.length_drop]
 have hs': ∀r∈l.drop i,r.size=size:=fun r hr=>hs r (List.mem_of_mem_drop hr);refine⟨_,c-i,by rw[hl],⟨by rw[xz hs'],by omega,Nat.le_trans (Nat.sub_le _ _) h3,(fun h=>by cases h),fun p hp=> ?_⟩,hs',fun p hp hn=> ?_⟩
 ·injection hp with hp
  subst hp;refine⟨fun hn=>(h5 _ rfl).1 (by omega),fun j u hu=> ?_⟩;rw[<-vV hs i hi,List.getElem?_drop] at hu;have:=(h5 _ rfl).2 _ _ hu;rw[xY] at this⊢;rw[Nat.add_assoc];exact this
 ·injection hp with hp
  subst hp;exact hA ⟨b,o,none⟩ rfl (by omega)
def tyTab:List (Nat×Bool×Nat):=[(3,false,1),(4,false,1),(5,false,1),(9,false,1),(22,false,1),(23,false,1),(24,false,1),(26,true,4),(27,false,1),(29,true,7),(32,false,1),(33,false,1),(34,false,1),(36,true,11),(42,false,1),(43,false,1),(45,true,2),(46,false,1),(47,false,1),(48,false,1),(50,true,2),(51,false,1),(52,false,1),(53,false,1),(54,false,1),(56,true,17),(58,true,19),(59,false,1),(61,true,3),(63,true,7),(66,false,1),(68,true,4),(70,false,1),(72,true,2),(76,true,4),(87,true,5),(95,false,1),(99,true,23),(116,true,17),(125,true,9),(127,true,2),(128,true,8),(130,true,4),(132,true,26),(137,true,2),(139,true,2),(143,false,1),(165,true,3),(170,true,3),(200,false,1),(201,false,1),(203,true,2),(219,true,2),(223,false,1),(225,true,1),(230,true,4),(243,true,2),(255,true,4)]
def chkTy(P:Program)(p:Nat×Bool×Nat):Bool:=(match P.underlying p.1 with|some (.struct _)=>p.2.1|some (.array _ _)=>p.2.1|some _=> !p.2.1|none=>false)&&(match P.info? p.1 with|some i=>i.size==p.2.2|none=>false)
theorem tyTab_all:tyTab.all (chkTy Tryz.prog)=true:=by kernel_rfl
def lk(T:Nat):List (Nat×Bool×Nat)->Option (Bool×Nat)
 |[]=>none
 |(a,b)::l=>if Nat.beq T a then some b else lk T l
def tyT(T:TypeId):Option (Bool×Nat):=lk T tyTab
theorem lk_mem{T:Nat}{x:Bool×Nat}: ∀{l:List (Nat×Bool×Nat)},lk T l=some x->(T,x)∈l
 |(a,b)::l,h=>by
  unfold lk at h;split at h
  ·rename_i he
   injection h with h;have:=Nat.eq_of_beq_eq_true he;subst h this;exact List.mem_cons_self ..
  ·exact List.mem_cons_of_mem _ (lk_mem h)
theorem jg{T:TypeId}{b:Bool}{n:Nat}(h:tyT T=some (b,n))(w:World):(isAgg T).run Tryz.prog w= .ok b w/\(sizeOf T).run Tryz.prog w= .ok n w:=by
 have h1:=List.all_eq_true.1 tyTab_all _ (lk_mem h);simp only[chkTy,Bool.and_eq_true] at h1;obtain⟨h1,h2⟩:=h1;constructor
 ·cases hu:Tryz.prog.underlying T with
  |none=>rw[hu] at h1;cases h1
  |some u=>
   rw[hu] at h1;have hr:=run_underlying (P:=Tryz.prog) (w:=w) hu;cases u<;>simp_all [isAgg]
 ·cases hi:Tryz.prog.info? T with
  |none=>rw[hi] at h2;cases h2
  |some i=>
   rw[hi] at h2;simp only[beq_iff_eq] at h2;simp[sizeOf,typeInfo,hi,h2]
inductive At:List (Nat×Array Value×TypeId)->Nat->Nat×Array Value×TypeId->Prop
 |here {x:Nat×Array Value×TypeId} {l:List (Nat×Array Value×TypeId)}:At (x::l) 0 x
 |there {x y:Nat×Array Value×TypeId} {l:List (Nat×Array Value×TypeId)} {i:Nat}:At l i x->At (y::l) (i+1) x
theorem At.a0{x:Nat×Array Value×TypeId}{l:List (Nat×Array Value×TypeId)}:At (x::l) 0 x:= .here
theorem At.a1{y0 x:Nat×Array Value×TypeId}{l:List (Nat×Array Value×TypeId)}:At (y0::x::l) 1 x:= .there (.here)
theorem At.a2{y0 y1 x:Nat×Array Value×TypeId}{l:List (Nat×Array Value×TypeId)}:At (y0::y1::x::l) 2 x:= .there (.there (.here))
theorem At.a3{y0 y1 y2 x:Nat×Array Value×TypeId}{l:List (Nat×Array Value×TypeId)}:At (y0::y1::y2::x::l) 3 x:= .there (.there (.there (.here)))
theorem At.a4{y0 y1 y2 y3 x:Nat×Array Value×TypeId}{l:List (Nat×Array Value×TypeId)}:At (y0::y1::y2::y3::x::l) 4 x:= .there (.there (.there (.there (.here))))
theorem At.a5{y0 y1 y2 y3 y4 x:Nat×Array Value×TypeId}{l:List (Nat×Array Value×TypeId)}:At (y0::y1::y2::y3::y4::x::l) 5 x:= .there (.there (.there (.there (.there (.here)))))
theorem At.get{l:List (Nat×Array Value×TypeId)}{i:Nat}{x:Nat×Array Value×TypeId}(h:At l i x):l[i]? =some x:=by
 induction h with
 |here=>rfl
 |there _ ih=>simpa using ih
theorem extract_list{C D:Array Value}{o n:Nat}(h:(C.toList.drop o).take n=D.toList):C.extract o (o+n)=D:=by
 apply Array.ext';rw[<-h];simp
section
variable{M X0 X:Nat->Prop}{w0 w:World}{bs:List (Nat×Array Value×TypeId)}{G:(Nat->Prop)->World->Prop}
variable{ops:Array Oper}{rest:List Oper}{a:Act}{Q:Exit->Act->World->Prop}{d:Option Tmp}{ty:TypeId}{pos:String}{af:Array Edge}
theorem ld1(k:Hid (St M X0 w0 bs G X w)){s:Operand}{T:TypeId}{b off:Nat}(hs:ev a s=some (.pointer (some ⟨b,off,none⟩)))(ht:tyT T=some (false,1)){i:Nat}{C:Array Value}{t:TypeId}(hi:At bs i (b,C,t))
  {v:Value} (hv:C.toList[off]? =some v) (h:wpList Tryz.prog ops Q rest (a.put d v) w):wpList Tryz.prog ops Q (⟨d,.load T s,ty,pos,af,none⟩::rest) a w:=
 st_load_one k i rfl rfl hs hi.get (jg ht w).1 ((Array.getElem?_toList ..).symm.trans hv) h
theorem lda(k:Hid (St M X0 w0 bs G X w)){s:Operand}{T:TypeId}{b:Nat}(hs:ev a s=some (.pointer (some ⟨b,0,none⟩))){n:Nat}(ht:tyT T=some (true,n)){i:Nat}{C:Array Value}{t:TypeId}(hi:At bs i (b,C,t))
  (hC:C.size=n) (h:wpList Tryz.prog ops Q rest (a.put d (.agg C)) w):wpList Tryz.prog ops Q (⟨d,.load T s,ty,pos,af,none⟩::rest) a w:=
 st_load_all k i rfl rfl hs hi.get (jg ht w).1 (jg ht w).2 hC h
theorem ldp(k:Hid (St M X0 w0 bs G X w)){s:Operand}{T:TypeId}{b off:Nat}(hs:ev a s=some (.pointer (some ⟨b,off,none⟩))){n:Nat}(ht:tyT T=some (true,n)){i:Nat}{C D:Array Value}{t:TypeId}(hi:At bs i (b,C,t))
  (hD:(C.toList.drop off).take n=D.toList) (hC:Nat.ble (off+n) C.size=true) (h:wpList Tryz.prog ops Q rest (a.put d (.agg D)) w):wpList Tryz.prog ops Q (⟨d,.load T s,ty,pos,af,none⟩::rest) a w:=
 wpList_load_st k.out i rfl s T rfl b off n (xO hs) C t hi.get (jg ht w).1 (jg ht w).2 D (extract_list hD) (Nat.le_of_ble_eq_true hC) h
theorem so1(k:Hid (St M X0 w0 bs G X w)){s x:Operand}{T:TypeId}{b off:Nat}(hs:ev a s=some (.pointer (some ⟨b,off,none⟩)))(ht:tyT T=some (false,1)){v:Value}(hx:ev a x=some v)(hv:v.oneCell'=true)
  {i:Nat} {C:Array Value} {t:TypeId} (hi:At bs i (b,C,t)) (hfit:Nat.blt off C.size=true) {E:Array Value} (hE:C.setIfInBounds off v=E)
  (h: ∀w',Hid (St M X0 w0 (bs.set i (b,E,t)) G X w')->wpList Tryz.prog ops Q rest (a.put d undef) w'):wpList Tryz.prog ops Q (⟨d,.store T s x,ty,pos,af,none⟩::rest) a w:=by
 subst hE;exact st_store_one k i rfl rfl hs hx hv hi.get (jg ht w).2 hfit h
theorem soa(k:Hid (St M X0 w0 bs G X w)){s x:Operand}{T:TypeId}{b:Nat}(hs:ev a s=some (.pointer (some ⟨b,0,none⟩))){n:Nat}(ht:tyT T=some (true,n)){D:Array Value}(hx:ev a x=some (.agg D))
  {i:Nat} {C:Array Value} {t:TypeId} (hi:At bs i (b,C,t)) (hn:D.size=n) (hC:C.size=n) (h1:yZ D)
  (h: ∀w',Hid (St M X0 w0 (bs.set i (b,D,t)) G X w')->wpList Tryz.prog ops Q rest (a.put d undef) w'):wpList Tryz.prog ops Q (⟨d,.store T s x,ty,pos,af,none⟩::rest) a w:=
 yl k i rfl rfl hs hx hi.get (jg ht w).2 hn hC h1 h
theorem sop(k:Hid (St M X0 w0 bs G X w)){s x:Operand}{T:TypeId}{b off:Nat}(hs:ev a s=some (.pointer (some ⟨b,off,none⟩))){n:Nat}(ht:tyT T=some (true,n)){D:Array Value}(hx:ev a x=some (.agg D))
  {i:Nat} {C:Array Value} {t:TypeId} (hi:At bs i (b,C,t)) (hn:D.size=n) (hfit:Nat.ble (off+n) C.size=true) (h1:yZ D) {E:Array Value} (hE:patch C off D=E)
  (h: ∀w',Hid (St M X0 w0 (bs.set i (b,E,t)) G X w')->wpList Tryz.prog ops Q rest (a.put d undef) w'):wpList Tryz.prog ops Q (⟨d,.store T s x,ty,pos,af,none⟩::rest) a w:=by
 subst hE;exact xm k i rfl rfl hs hx hi.get (jg ht w).2 hn (Nat.le_of_ble_eq_true hfit) h1 h
theorem yE(k:Hid (St M X0 w0 bs G X w)){E:Array Value}{G':(Nat->Prop)->World->Prop}{s x:Operand}{T:TypeId}{b off:Nat}(hs:ev a s=some (.pointer (some ⟨b,off,none⟩)))(ht:tyT T=some (false,1)){v:Value}(hx:ev a x=some v)(hv:v.oneCell'=true)
  {i:Nat} {C:Array Value} {t:TypeId} (hi:At bs i (b,C,t)) (hfit:Nat.blt off C.size=true) (hE:C.setIfInBounds off v=E) (hP:Per G') (hG: ∀X W,G X W->G' X W)
  (h: ∀w',Hid (St M X0 w0 (bs.set i (b,E,t)) G' X w')->wpList Tryz.prog ops Q rest (a.put d undef) w'):wpList Tryz.prog ops Q (⟨d,.store T s x,ty,pos,af,none⟩::rest) a w:=
 so1 k hs ht hx hv hi hfit hE (fun w' k'=>h w' (k'.out.turn (hG _ _) hP))
theorem sopt(k:Hid (St M X0 w0 bs G X w)){E:Array Value}{G':(Nat->Prop)->World->Prop}{s x:Operand}{T:TypeId}{b off:Nat}(hs:ev a s=some (.pointer (some ⟨b,off,none⟩))){n:Nat}(ht:tyT T=some (true,n)){D:Array Value}(hx:ev a x=some (.agg D))
  {i:Nat} {C:Array Value} {t:TypeId} (hi:At bs i (b,C,t)) (hn:D.size=n) (hfit:Nat.ble (off+n) C.size=true) (h1:yZ D) (hE:patch C off D=E) (hP:Per G') (hG: ∀X W,G X W->G' X W)
  (h: ∀w',Hid (St M X0 w0 (bs.set i (b,E,t)) G' X w')->wpList Tryz.prog ops Q rest (a.put d undef) w'):wpList Tryz.prog ops Q (⟨d,.store T s x,ty,pos,af,none⟩::rest) a w:=
 sop k hs ht hx hi hn hfit h1 hE (fun w' k'=>h w' (k'.out.turn (hG _ _) hP))
theorem bxa(k:Hid (St M X0 w0 bs G X w)){T:TypeId}{s:Operand}{C:Array Value}(hs:ev a s=some (.agg C))
  (h: ∀b X' w',Hid (St M X0 w0 ((b,C,T)::bs) G X' w')->wpList Tryz.prog ops Q rest (a.put d (.pointer (some ⟨b,0,none⟩))) w'):wpList Tryz.prog ops Q (⟨d,.box T s,ty,pos,af,none⟩::rest) a w:=yt k rfl rfl hs h
theorem bx1(k:Hid (St M X0 w0 bs G X w)){T:TypeId}{s:Operand}{v:Value}(hs:ev a s=some v)(hv:v.oneCell'=true)
  (h: ∀b X' w',Hid (St M X0 w0 ((b,#[v],T)::bs) G X' w')->wpList Tryz.prog ops Q rest (a.put d (.pointer (some ⟨b,0,none⟩))) w'):wpList Tryz.prog ops Q (⟨d,.box T s,ty,pos,af,none⟩::rest) a w:=st_box_one k rfl rfl hs hv h
theorem ala(k:Hid (St M X0 w0 bs G X w)){T:TypeId}{C:Array Value}(hz: ∀w,(zeroValue T).run Tryz.prog w= .ok (.agg C) w)
  (h: ∀b X' w',Hid (St M X0 w0 ((b,C,T)::bs) G X' w')->wpList Tryz.prog ops Q rest (a.put d (.pointer (some ⟨b,0,none⟩))) w'):wpList Tryz.prog ops Q (⟨d,.alloc T,ty,pos,af,none⟩::rest) a w:=zG k rfl rfl (hz w) h
theorem al1(k:Hid (St M X0 w0 bs G X w)){T:TypeId}{v:Value}(hz: ∀w,(zeroValue T).run Tryz.prog w= .ok v w)(hv:v.oneCell'=true)
  (h: ∀b X' w',Hid (St M X0 w0 ((b,#[v],T)::bs) G X' w')->wpList Tryz.prog ops Q rest (a.put d (.pointer (some ⟨b,0,none⟩))) w'):wpList Tryz.prog ops Q (⟨d,.alloc T,ty,pos,af,none⟩::rest) a w:=st_alloc_one k rfl rfl (hz w) hv h
theorem zl(k:Hid (St M X0 w0 bs G X w)){s:Operand}{T:TypeId}{b off:Nat}(hs:ev a s=some (.pointer (some ⟨b,off,none⟩)))(ht:tyT T=some (false,1)){i:Nat}{C:Array Value}{t:TypeId}(hi:At bs i (b,C,t))
  {v:Value} (hv:C[off]? =some v) (h:wpList Tryz.prog ops Q rest (a.put d v) w):wpList Tryz.prog ops Q (⟨d,.load T s,ty,pos,af,none⟩::rest) a w:=
 ld1 k hs ht hi ((Array.getElem?_toList ..).trans hv) h
end
section
variable{M X0:Nat->Prop}{w0 W:World}{bs:List (Nat×Array Value×TypeId)}{G:(Nat->Prop)->World->Prop}{a:Act}{d:Option Tmp}{T:TypeId}{s:Operand}{ty:TypeId}{pos:String}{af:Array Edge}{g:Option (Nat×Bool)}
theorem yG{ad:Addr}{v:Value}(hs:ev a s=some (.pointer (some ad)))(h:(loadVar T ad).run Tryz.prog W= .ok v W):
  (execOp a.eval (⟨d,.load T s,ty,pos,af,g⟩:Oper)).run Tryz.prog W= .ok (.value v) W:=by
 have hrun:(Instr.loadAt T (.pointer (some ad))).run Tryz.prog W= .ok v W:=by simp[Instr.loadAt,Instr.sureAddr,h]
 unfold execOp;simp only[xO hs,hrun,Sem.run_bind,Sem.run_pure,Result.andThen_ok]
theorem yw{R:Result Next}(h:(execOp a.eval (⟨d,.load T s,ty,pos,af,g⟩:Oper)).run Tryz.prog W=R):(execOp a.eval (⟨d,.load T s,ty,pos,af,g⟩:Oper)).run Tryz.prog W=R:=h
theorem Stay.l1(h:Stay M X0 w0 bs G W){b off:Nat}(hs:ev a s=some (.pointer (some ⟨b,off,none⟩)))(ht:tyT T=some (false,1)){i:Nat}{C:Array Value}{t:TypeId}(hi:At bs i (b,C,t)){v:Value}(hv:C.toList[off]? =some v):
  (execOp a.eval (⟨d,.load T s,ty,pos,af,g⟩:Oper)).run Tryz.prog W= .ok (.value v) W:=by
 refine yG hs ?_;have hc:=(h.cell i hi.get off).trans ((Array.getElem?_toList ..).symm.trans hv);simp[loadVar,(jg ht W).1,hc]
theorem Stay.la(h:Stay M X0 w0 bs G W){b:Nat}(hs:ev a s=some (.pointer (some ⟨b,0,none⟩))){n:Nat}(ht:tyT T=some (true,n)){i:Nat}{C:Array Value}{t:TypeId}(hi:At bs i (b,C,t))(hC:C.size=n){v:Value}(hv:Value.agg C=v):
  (execOp a.eval (⟨d,.load T s,ty,pos,af,g⟩:Oper)).run Tryz.prog W= .ok (.value v) W:=
 hv▸yG hs (h.load i hi.get T (jg ht W).1 (jg ht W).2 hC)
theorem Stay.lp(h:Stay M X0 w0 bs G W){b off:Nat}(hs:ev a s=some (.pointer (some ⟨b,off,none⟩))){n:Nat}(ht:tyT T=some (true,n)){i:Nat}{C D:Array Value}{t:TypeId}(hi:At bs i (b,C,t))(hD':(C.toList.drop off).take n=D.toList)(hC:Nat.ble (off+n) C.size=true){v:Value}(hv:Value.agg D=v):
  (execOp a.eval (⟨d,.load T s,ty,pos,af,g⟩:Oper)).run Tryz.prog W= .ok (.value v) W:=by
 subst hv;refine yG hs ?_;have hC':=Nat.le_of_ble_eq_true hC;have hD:=extract_list hD';have hn:D.size=n:=by subst hD;simp;omega
 have hl:=run_loadCells_list (P:=Tryz.prog) (w:=W) ⟨b,off,none⟩ D.toList (fun j v hj=>by
  have e:(⟨b,off,none⟩:Addr).add j=⟨b,off+j,none⟩:=by unfold Addr.add;split<;>simp_all
  rw[e,h.cell i hi.get];subst hD;have hj':(C.extract off (off+n))[j]? =some v:=by rw[<-Array.getElem?_toList];exact hj
  rw[Array.getElem?_extract] at hj';split at hj'
  ·exact hj'
  ·cases hj')
 simp only[Array.length_toList,hn,Array.toArray_toList] at hl;simp[loadVar,(jg ht W).1,(jg ht W).2,hl]
end
section
variable{P:Program}{ops:Array Oper}
theorem lkw{i:Nat}{d:Option Tmp}{path:List Nat}{r:List (Nat×Option Tmp×List Nat)}{v:Value}{vs:List Value}{a:Act}{w:World}{o:Oper}(ho:ops.toList[i]? =some o)(hd:o.dst=d)
  (hw:Region.wanted o (yielded ops a.tmps)=true) (h:(execOp a.eval o).run P w= .ok (.value v) w) (hr:ZV P ops r vs (a.put d v) w):ZV P ops ((i,d,path)::r) (v::vs) a w:=zu ((Array.getElem?_toList ..).symm.trans ho) hd hw h hr
theorem lks{i:Nat}{d:Option Tmp}{path:List Nat}{r:List (Nat×Option Tmp×List Nat)}{vs:List Value}{a:Act}{w:World}{o:Oper}(ho:ops.toList[i]? =some o)(hd:o.dst=d)
  (hw:Region.wanted o (yielded ops a.tmps)=false) (hr:ZV P ops r vs (a.put d undef) w):ZV P ops ((i,d,path)::r) (undef::vs) a w:=looks_skip ((Array.getElem?_toList ..).symm.trans ho) hd hw hr
end
theorem growInt_any(n:Nat)(w:World)(hn:0<n)(hle:n<=100000000):
  Calls Tryz.prog 141 #[.slice none 0 0,.int .i64 n] w (OwnR w.heap.size 3 1 [] w):=by
 have htn:Tryz.prog.underlying 3=some (.int .i64):=Tryz.underlying3;have hn0:((n:Int)<0)=False:=by rw[eq_iff_iff,iff_false];omega
 have hn1:(0:Int)<n:=by omega
 go_enter Tryz.func141,Tryz.ntmps141;go_wp2_with(refine vq elInt (by decide) rfl (.tmp 20) (.tmp 21) 3 htn rfl none 0 0 n [] rfl rfl (fun _=>rfl) rfl (fun b h=>by cases h) hn (by omega) (by omega) (by omega) ?_;intro W1 c1 C1 hk1 hC1 hn1 hc1 ht1 hb1 hz1;have hcn:c1<=9223372036854775807:=hc1);all_goals
  go_ret
  exact⟨_,rfl,⟨rfl,.inr ⟨w.heap.size,c1,C1,rfl,Nat.le_refl _,hk1,Nat.zero_le _,hc1,hC1,rfl⟩⟩,hb1⟩
def JoinW(base:Nat)(l:List (Array Value))(v:Value)(w0 W:World):Prop:=W.ownsRow base 3 1 v l.length (yy l)/\Below base w0 W
theorem concat_any(b:Nat)(v1 v2:Value)(l1 l2:List (Array Value))(w:World)(hk:Blk w b #[v1,v2] 43)(h1:Sl 1 v1 l1 (fun _=>False) w)(h2:Sl 1 v2 l2 (fun _=>False) w)(o1: ∀r∈l1,yZ r)(o2: ∀r∈l2,yZ r)(hle:l1.length+l2.length<=100000000)(hpos:0<l1.length+l2.length):
  Calls Tryz.prog 114 #[.slice (some ⟨b,0,none⟩) 2 2] w (OwnR w.heap.size 3 1 (l1++l2) w):=by
 obtain⟨A1,c1,rfl,hlc1,hcm1⟩:=h1.len;obtain⟨A2,c2,rfl,hlc2,hcm2⟩:=h2.len;obtain⟨r0,f0⟩:=hk.rules;have q0:w.cell? ⟨b,0,none⟩=some (.slice A1 l1.length c1):=(r0 0).trans rfl;have q1:w.cell? ⟨b,1,none⟩=some (.slice A2 l2.length c2):=(r0 1).trans rfl;have H1:=Lib.hid h1;have H2:=Lib.hid h2;have O1:=Lib.hid o1;have O2:=Lib.hid o2;have HK:=Lib.hid hk;clear h1 h2 o1 o2 hlc1 hlc2 hcm1 hcm2 r0 f0 hk;go_enter Tryz.func114,Tryz.ntmps114;go_wp2_with fail
 go_loop [3,11] (fun s i=> ∃k:Nat,k<=2/\i= .int .i64 k/\ ∃t:Int,s= .int .i64 t/\0<=t/\t<=100000000/\Hid ((k=0->t=0)/\(k=1->t=l1.length)/\(k=2->t=l1.length+l2.length))) (fun _ i=>2-(intOf i).toNat)
 case atStart=>exact⟨0,by omega,rfl,0,rfl,by omega,by omega,fun _=>rfl,(fun h=>by cases h),(fun h=>by cases h)⟩
 case round=>
  obtain⟨k,hk,rfl,t,rfl,ht0,ht1,hT⟩:=hrel;have hk3:k=0\/k=1\/k=2:=by omega
  rcases hk3 with rfl|rfl|rfl
  ·obtain rfl:=hT.out.1 rfl
   have hneg:decide ((l1.length:Int)<0)=false:=decide_eq_false (by omega);go_wp2_with fail
   go_round
   case rel=>exact⟨1,by omega,by go_num,l1.length,by first|rfl|go_num,by omega,by omega,(fun h=>by cases h),fun _=>rfl,(fun h=>by cases h)⟩
   case measure=>simp[intOf]
  ·obtain rfl:=hT.out.2.1 rfl
   have hneg:decide ((l1.length:Int)+(l2.length:Int)<0)=false:=decide_eq_false (by omega);go_wp2_with fail
   go_round
   case rel=>exact⟨2,by omega,by go_num,(l1.length:Int)+l2.length,by first|rfl|go_num,by omega,by omega,(fun h=>by cases h),(fun h=>by cases h),fun _=>rfl⟩
   case measure=>simp[intOf]
  ·obtain rfl:=hT.out.2.2 rfl
   clear hT ht0 ht1;go_wp2_with fail;have hcast:(l1.length:Int)+(l2.length:Int)=((l1.length+l2.length:Nat):Int):=by omega
   rw[hcast];refine(growInt_any (l1.length+l2.length) w hpos hle).mono ?_;rintro e w1 ⟨v,rfl,hown,hb⟩;have HJ:Hid (JoinW w.heap.size [] v w w1):=⟨hown,hb⟩;have hsz:=hb.size;clear hown hb hcast;go_wp2_with fail
   go_loopw [6,27] (fun s i W=> ∃k:Nat,k<=2/\i= .int .i64 k/\w.heap.size<=W.heap.size/\Hid ((k=0->JoinW w.heap.size [] s w W)/\(k=1->JoinW w.heap.size l1 s w W)/\(k=2->JoinW w.heap.size (l1++l2) s w W))) (fun _ i _=>2-(intOf i).toNat)
   case atStart=>exact⟨0,by omega,rfl,hsz,fun _=>HJ.out,(fun h=>by cases h),(fun h=>by cases h)⟩
   case round=>
    obtain⟨k,hk,rfl,hsw,hT⟩:=hrel;have hk3:k=0\/k=1\/k=2:=by omega
    rcases hk3 with rfl|rfl|rfl
    ·have hJ:=hT.out.1 rfl
     have HO:=Lib.hid hJ.1;have HB:=Lib.hid hJ.2;have g0:wr.cell? ⟨b,0,none⟩=some (.slice A1 l1.length c1):=(hJ.2.cell (p:=⟨b,0,none⟩) HK.out.lt).trans q0;have hs1:=Lib.hid ((zb _ _ _).step H1.out (Only.of_below hJ.2));clear hJ hT;go_wp2_with(refine yO elInt (by decide) rfl (.tmp 31) (.tmp 32) rfl w.heap.size _ [] rfl HO.out (fun _=>False) _ l1 rfl hs1.out O1.out (by simp;omega) (by omega) hsw ?_;intro v' W2 hown2 hb2 hz2 _ _;rw[List.nil_append] at hown2;have HO2:=Lib.hid hown2;clear hown2)
     go_roundw
     case rel=>exact⟨1,by omega,by go_num,by omega,(fun h=>by cases h),fun _=>⟨HO2.out,HB.out.trans hb2⟩,(fun h=>by cases h)⟩
     case measure=>simp[intOf]
    ·have hJ:=hT.out.2.1 rfl
     have HO:=Lib.hid hJ.1;have HB:=Lib.hid hJ.2;have g0:wr.cell? ⟨b,1,none⟩=some (.slice A2 l2.length c2):=(hJ.2.cell (p:=⟨b,1,none⟩) HK.out.lt).trans q1;have hs1:=Lib.hid ((zb _ _ _).step H2.out (Only.of_below hJ.2));clear hJ hT;go_wp2_with(refine yO elInt (by decide) rfl (.tmp 31) (.tmp 32) rfl w.heap.size _ l1 rfl HO.out (fun _=>False) _ l2 rfl hs1.out O2.out (by omega) (by omega) hsw ?_;intro v' W2 hown2 hb2 hz2 _ _;have HO2:=Lib.hid hown2;clear hown2)
     go_roundw
     case rel=>exact⟨2,by omega,by go_num,by omega,(fun h=>by cases h),(fun h=>by cases h),fun _=>⟨HO2.out,HB.out.trans hb2⟩⟩
     case measure=>simp[intOf]
    ·have hJ:=hT.out.2.2 rfl
     have HO:=Lib.hid hJ.1;have HB:=Lib.hid hJ.2;clear hJ hT;go_wp2_with fail
     go_ret
     exact⟨_,rfl,HO.out,HB.out⟩
theorem joined_any(b:Nat)(v1 v2:Value)(l1 l2:List (Array Value))(w:World)(hk:Blk w b #[v1,v2] 43)(h1:Sl 1 v1 l1 (fun _=>False) w)(h2:Sl 1 v2 l2 (fun _=>False) w)(o1: ∀r∈l1,yZ r)(o2: ∀r∈l2,yZ r)(hle:l1.length+l2.length<=100000000)(hpos:0<l1.length+l2.length):
  Calls Tryz.prog 86 #[.slice (some ⟨b,0,none⟩) 2 2] w (OwnR w.heap.size 3 1 (l1++l2) w):=by
 have HC:=Lib.hid (concat_any b v1 v2 l1 l2 w hk h1 h2 o1 o2 hle hpos);clear hk h1 h2 o1 o2;go_enter Tryz.func86,Tryz.ntmps86;go_wp2_with fail;refine HC.out.mono ?_;rintro e w1 ⟨v,rfl,hown,hb⟩;go_wp2_with fail
 go_ret
 exact⟨_,rfl,hown,hb⟩
def Pos(r:Array Value):Prop:= ∃x:Int,r= #[.int .i64 x]/\1<=x
theorem Pos.int{r:Array Value}(h:Pos r):IntR r:=⟨h.choose,h.choose_spec.1⟩
theorem IntR.one{r:Array Value}(h:IntR r):yZ r:=by
 obtain⟨x,rfl⟩:=h;exact zm rfl
theorem IntR.size{r:Array Value}(h:IntR r):r.size=1:=by
 obtain⟨x,rfl⟩:=h;rfl
def TurnR(l:List (Array Value))(q:Array Value)(n:Nat)(X:Nat->Prop)(w:World)(e:Ending)(w':World):Prop:=
 ∃(v:Value) (l':List (Array Value)) (x:Int),e= .returned (.agg #[v,.int .i64 x])/\Sl 1 v l' X w' /\(∀r∈l',r∈l\/r=q)/\l'.length<=n/\Below w.heap.size w w'
theorem sl_no{size:Nat}{v:Value}{l:List (Array Value)}{X:Nat->Prop}{W:World}(h:Sl size v l X W):Sl size v l (fun _=>False) W:=(zb _ _ _).sub (fun _ h=>h.elim) h
theorem tfirst_any(v:Value)(l:List (Array Value))(x:Int)(X:Nat->Prop)(w:World)(h:Sl 1 v l X w)(hr: ∀r∈l,Pos r)(hX: ∀b,X b->b<w.heap.size):
  Calls Tryz.prog 91 #[.agg #[v,.int .i64 x]] w fun e w'=>(∃(y:Int) (b:Bool),e= .returned (.tuple #[.int .i64 y,.bool b])/\(b=true->1<=y))/\Below w.heap.size w w':=by
 obtain⟨A,c,rfl,_,_⟩:=h.len;have k:Hid (St (fun _=>False) X w [] (Sl 1 (.slice A l.length c) l) X w):=St.begin hX h (zb _ _ _);have HR:=Lib.hid hr;clear h hr;cases l with
 |nil=>
  simp only[List.length_nil] at k⊢;go_enter Tryz.func91,Tryz.ntmps91;go_wp2_with(first|((with_reducible refine zz ?_);refine zl k rfl rfl .a0 (by rfl) ?_)|((with_reducible refine zI ?_);refine yt k rfl rfl rfl ?_;clear k;intro b X W k))
  go_ret2
  exact⟨⟨_,_,rfl,fun h=>by cases h⟩,k.out.end⟩
 |cons r l=>
  obtain⟨y,rfl,hy⟩:=HR.out r (by simp);have hn1:(((l.length:Int)+1)==0)=false:=by rw[beq_eq_false_iff_ne];omega
  have hl0:(0:Int)<(l.length:Int)+1:=by omega
  simp only[List.length_cons] at k⊢;obtain⟨b0,o0,rfl,_⟩:=k.out.fact.row (i:=0) rfl (by decide);go_enter Tryz.func91,Tryz.ntmps91;go_wp2_with(first|((with_reducible refine zz ?_);first|(refine qx rfl (T:=3) rfl k.out.fact (i:=0) rfl rfl ⟨_,rfl,by simp⟩ (Tryz.isAgg3 _) ?_)|(refine zl k rfl rfl .a0 (by rfl) ?_))|((with_reducible refine zI ?_);refine yt k rfl rfl rfl ?_;clear k;intro b X W k))
  go_ret2
  exact⟨⟨_,_,rfl,fun _=>hy⟩,k.out.end⟩
theorem tadd_any(v:Value)(l:List (Array Value))(x y:Int)(X0:Nat->Prop)(w:World)(h:Sl 1 v l X0 w)(hr: ∀r∈l,Pos r)(hX: ∀b,X0 b->b<w.heap.size)(hle:l.length<=10000000):
  Calls Tryz.prog 68 #[.agg #[v,.int .i64 x],.int .i64 y] w (TurnR l #[.int .i64 y] (l.length+1) X0 w):=by
 obtain⟨A,c,rfl,_,_⟩:=h.len;have k:Hid (St (fun _=>False) X0 w [] (Sl 1 (.slice A l.length c) l) X0 w):=St.begin hX h (zb _ _ _);have HR:=Lib.hid hr;have HO:Hid (∀r∈l,yZ r):=fun r hr=>(HR.out r hr).int.one;clear h hr;go_enter Tryz.func68,Tryz.ntmps68;go_wp2_with(first|((with_reducible refine zz ?_);refine zl k rfl rfl .a1 (by rfl) ?_)|((with_reducible refine zI ?_);refine yt k rfl rfl rfl ?_;clear k;intro b X W k)|((with_reducible refine zf ?_);refine zG k rfl (T:=45) rfl (Tryz.zeroValue45 _) ?_;clear k;intro b X W k));refine(containsInt_any _ l y _ W k.out.fact (fun r hr=>(HR.out r hr).int)).mono ?_;rintro e W1 ⟨⟨b1,rfl⟩,rfl⟩;cases b1 with
 |true=>
  go_wp2_with(first|((with_reducible refine zz ?_);refine lda k rfl rfl .a1 (by rfl) ?_)|((with_reducible refine zx ?_);refine soa k rfl rfl rfl .a0 (by rfl) (by rfl) (zm rfl) ?_;clear k;intro W k));exact bodyPost_ret (yj rfl _ rfl (zY k.out 0 rfl 45 (Tryz.isAgg45 _) (Tryz.sizeOf45 _) rfl)) rfl ⟨_,l,x,rfl,k.out.out,fun r hr=> .inl hr,by omega,k.out.end⟩
 |false=>
  obtain⟨bn,hn0⟩: ∃bn,((l.length:Int)==0)=bn:=⟨_,rfl⟩;cases bn;all_goals
   go_wp2_with(first|((with_reducible refine zz ?_);refine zl k rfl rfl .a1 (by rfl) ?_)|((with_reducible refine zx ?_);refine so1 k rfl rfl rfl (by rfl) .a1 (by rfl) rfl ?_;clear k;intro W k)|((with_reducible refine qY ?_);first|(refine qp k elInt rfl rfl rfl rfl rfl (by decide) (by decide) ?_;clear k;intro b X W k)|(refine st_rowOf2 k elInts rfl rfl rfl rfl rfl rfl ?_;clear k;intro b X W k)));have hk1:=k.out.blk (i:=0) rfl;have hk2:=k.out.blk (i:=1) rfl;refine(joined_any _ _ _ l [#[.int .i64 y]] W hk1 (sl_no k.out.fact) (qU hk2 rfl (Nat.le_refl 1) (by unfold maxLen;omega)) HO.out (by intro r hr;simp at hr;subst hr;exact zm rfl) (by simp;omega) (by simp)).mono ?_;rintro e W1 ⟨v',rfl,hown,hb⟩;obtain⟨A',c',rfl,_⟩:=yb hown;replace k:=zj ((k.out.call hb).add (H:=Sl 1 _ _) (zV hown (by intro r hr;simp at hr;rcases hr with hr|rfl;exact(HR.out r hr).int.size;rfl) k.out.lt) (zb _ _ _));clear hk1 hk2 hown hb hn0;generalize (l++ [#[Value.int .i64 y]]).length=n' at k⊢;go_wp2_with(first|((with_reducible refine zz ?_);refine lda k rfl rfl .a3 (by rfl) ?_)|((with_reducible refine zx ?_);first|(refine so1 k rfl rfl rfl (by rfl) .a3 (by rfl) rfl ?_;clear k;intro W k)|(refine soa k rfl rfl rfl .a2 (by rfl) (by rfl) (zm rfl) ?_;clear k;intro W k)));exact bodyPost_ret (yj rfl _ rfl (zY k.out 2 rfl 45 (Tryz.isAgg45 _) (Tryz.sizeOf45 _) rfl)) rfl ⟨_,_,_,rfl,k.out.out.2,(fun r hr=>by simp at hr;exact hr),(by simp),k.out.end⟩
theorem tyield_any(v:Value)(l:List (Array Value))(x:Int)(X0:Nat->Prop)(w:World)(h:Sl 1 v l X0 w)(hr: ∀r∈l,Pos r)(hX: ∀b,X0 b->b<w.heap.size)(hle:l.length<=10000000)(q:Array Value):
  Calls Tryz.prog 125 #[.agg #[v,.int .i64 x]] w (TurnR l q l.length X0 w):=by
 obtain⟨A,c,rfl,hlc,hcm⟩:=h.len;have k:Hid (St (fun _=>False) X0 w [] (Sl 1 (.slice A l.length c) l) X0 w):=St.begin hX h (zb _ _ _);have HR:=Lib.hid hr;have HO:Hid (∀r∈l,yZ r):=fun r hr=>(HR.out r hr).int.one;clear h hr;cases l with
 |nil=>
  simp only[List.length_nil] at k hlc⊢;go_enter Tryz.func125,Tryz.ntmps125;go_wp2_with(first|((with_reducible refine zz ?_);first|(refine zl k rfl rfl .a1 (by rfl) ?_)|(refine lda k rfl rfl .a1 (by rfl) ?_))|((with_reducible refine zx ?_);refine soa k rfl rfl rfl .a0 (by rfl) (by rfl) (zm rfl) ?_;clear k;intro W k)|((with_reducible refine zI ?_);refine yt k rfl rfl rfl ?_;clear k;intro b X W k)|((with_reducible refine zf ?_);refine zG k rfl (T:=45) rfl (Tryz.zeroValue45 _) ?_;clear k;intro b X W k));exact bodyPost_ret (yj rfl _ rfl (zY k.out 0 rfl 45 (Tryz.isAgg45 _) (Tryz.sizeOf45 _) rfl)) rfl ⟨_,[],x,rfl,k.out.out,(fun r hr=>by cases hr),Nat.le_refl _,k.out.end⟩
 |cons r l=>
  have hn1:(((l.length:Int)+1)==0)=false:=by rw[beq_eq_false_iff_ne];omega
  have hl0:(1:Int)<=(l.length:Int)+1:=by omega
  have hcap:c<=9223372036854775807:=hcm;simp only[List.length_cons] at k hlc⊢;have hc1:(1:Int)<=(c:Int):=by omega
  obtain⟨b0,o0,rfl,_⟩:=k.out.fact.row (i:=0) rfl (by decide);clear hcm;by_cases hc2:c=1
  ·subst hc2
   obtain rfl:=List.eq_nil_of_length_eq_zero (show l.length=0 by omega);go_enter Tryz.func125,Tryz.ntmps125
   go_upto_region 3 with(first|((with_reducible refine zz ?_);refine zl k rfl rfl .a1 (by rfl) ?_)|((with_reducible refine zI ?_);refine yt k rfl rfl rfl ?_;clear k;intro b X W k)|((with_reducible refine zf ?_);refine zG k rfl (T:=45) rfl (Tryz.zeroValue45 _) ?_;clear k;intro b X W k))
   have HPer:=Lib.hid k.out.per;refine zt k 9 10 (by kernel_rfl) rfl ?_;clear k;intro W k;refine zq [(0,some 8,[9]),(1,some 9,[9]),(2,some 10,[9]),(3,some 11,[9]),(4,some 12,[9]),(5,some 13,[9])] [?v1_0,?v1_1,?v1_2,?v1_3,?v1_4,?v1_5] 4 (by kernel_rfl) ⟨_,k.out⟩ ?l1 ?h1;case l1=>
    intro w' hSw;have r0:=hSw.cell 0 rfl;have r1:=hSw.cell 1 rfl;refine zu rfl rfl (by rfl) ?_ ?_
    ·go_simp
     try(with_reducible rfl)
    try simp only[Act.put,tS,t0,t1]
    refine zu rfl rfl (by rfl) ?_ ?_
    ·go_simp
     try(with_reducible rfl)
    try simp only[Act.put,tS,t0,t1]
    refine zu rfl rfl (by rfl) ?_ ?_
    ·go_simp
     try(with_reducible rfl)
    try simp only[Act.put,tS,t0,t1]
    refine zu rfl rfl (by rfl) ?_ ?_
    ·go_simp
     try(with_reducible rfl)
    try simp only[Act.put,tS,t0,t1]
    refine zu rfl rfl (by rfl) ?_ ?_
    ·go_simp
     try(with_reducible rfl)
    try simp only[Act.put,tS,t0,t1]
    refine zu rfl rfl (by rfl) ?_ ?_
    ·go_simp
     try(with_reducible rfl)
    try simp only[Act.put,tS,t0,t1]
    trivial
   simp only[zw,zk,Act.put,tS,t0,t1];refine w1 6 3 (by kernel_rfl) rfl ?_;go_wp2_with((with_reducible refine qY ?_);refine st_rowOf2 k elInts rfl rfl rfl rfl rfl rfl ?_;clear k;intro b X W k);have hkr:=k.out.blk (i:=0) rfl;replace k:=zj (k.out.drop (n:=1));refine zd (yz ⟨_,k.out⟩) ?_;refine w1 7 2 (by kernel_rfl) rfl ?_;go_wp2_with fail;refine(joined_any _ _ _ [] [r] W hkr (sl_empty _ _ _ (by unfold maxLen;omega) _ _) (by have:=(sl_no k.out.fact).upto (i:=1) (by omega);simpa using this) (fun r hr=>HO.out r (by simp[hr])) (fun q hq=>HO.out q (by simp at hq;simp[hq])) (by simp at hle⊢ <;>omega) (by simp)).mono ?_;rintro e W1 ⟨v',rfl,hown,hb⟩;obtain⟨A',c',rfl,_⟩:=yb hown;have hf:=zV hown (fun q hq=>(HR.out q (by simp at hq⊢;first|exact hq|(rcases hq with h|h;exact .inr h;exact .inl h))).int.size) k.out.lt;replace k:=zj (k.out.call hb);clear hkr hown hb;generalize ([]++ [r]:List (Array Value)).length=n' at hf⊢;go_wp2_with fail;refine zd (yz ⟨_,k.out⟩) ?_;refine zq [(8,some 16,[9])] [?v2_8] 1 (by kernel_rfl) ⟨_,k.out⟩ ?l2 ?h2;case l2=>
    intro w' hSw;have r0:=hSw.cell 0 rfl;have r1:=hSw.cell 1 rfl;refine zu rfl rfl (by rfl) ?_ ?_
    ·go_simp
     try(with_reducible rfl)
    try simp only[Act.put,tS,t0,t1]
    trivial
   simp only[zw,zk,Act.put,tS,t0,t1];refine w1 9 0 (by kernel_rfl) rfl ?_;replace k:=zj (k.out.add hf (zb _ _ _));clear hf;go_wp2_with((with_reducible refine zx ?_);refine soa k rfl rfl rfl .a0 (by rfl) (by rfl) (zm rfl) ?_;clear k;intro W k);refine zd (zJ rfl) ?_;refine zv (by kernel_rfl) ?_ _;go_wp2_with fail;exact bodyPost_ret (yj rfl _ rfl (zY k.out 0 rfl 45 (Tryz.isAgg45 _) (Tryz.sizeOf45 _) rfl)) rfl ⟨_,_,_,rfl,k.out.out.2,(fun q hq=> .inl (by simp at hq⊢;first|exact hq|(rcases hq with hq|rfl;exact .inr hq;exact .inl rfl))),(by simp),k.out.end⟩
  ·go_enter Tryz.func125,Tryz.ntmps125
   go_upto_region 3 with(first|((with_reducible refine zz ?_);refine zl k rfl rfl .a1 (by rfl) ?_)|((with_reducible refine zI ?_);refine yt k rfl rfl rfl ?_;clear k;intro b X W k)|((with_reducible refine zf ?_);refine zG k rfl (T:=45) rfl (Tryz.zeroValue45 _) ?_;clear k;intro b X W k))
   have HPer:=Lib.hid k.out.per;refine zt k 9 10 (by kernel_rfl) rfl ?_;clear k;intro W k;refine zq [(0,some 8,[9]),(1,some 9,[9]),(2,some 10,[9]),(3,some 11,[9]),(4,some 12,[9]),(5,some 13,[9])] [?v3_0,?v3_1,?v3_2,?v3_3,?v3_4,?v3_5] 4 (by kernel_rfl) ⟨_,k.out⟩ ?l3 ?h3;case l3=>
    intro w' hSw;have r0:=hSw.cell 0 rfl;have r1:=hSw.cell 1 rfl;refine zu rfl rfl (by rfl) ?_ ?_
    ·go_simp
     try(with_reducible rfl)
    try simp only[Act.put,tS,t0,t1]
    refine zu rfl rfl (by rfl) ?_ ?_
    ·go_simp
     try(with_reducible rfl)
    try simp only[Act.put,tS,t0,t1]
    refine zu rfl rfl (by rfl) ?_ ?_
    ·go_simp
     try(with_reducible rfl)
    try simp only[Act.put,tS,t0,t1]
    refine zu rfl rfl (by rfl) ?_ ?_
    ·go_simp
     try(with_reducible rfl)
    try simp only[Act.put,tS,t0,t1]
    refine zu rfl rfl (by rfl) ?_ ?_
    ·go_simp
     try(with_reducible rfl)
    try simp only[Act.put,tS,t0,t1]
    refine zu rfl rfl (by rfl) ?_ ?_
    ·go_simp
     try(with_reducible rfl)
    try simp only[Act.put,tS,t0,t1]
    trivial
   simp only[zw,zk,Act.put,tS,t0,t1];refine w1 6 3 (by kernel_rfl) rfl ?_;go_wp2_with((with_reducible refine qY ?_);refine st_rowOf2 k elInts rfl rfl rfl rfl rfl rfl ?_;clear k;intro b X W k);have hkr:=k.out.blk (i:=0) rfl;replace k:=zj (k.out.drop (n:=1));refine zd (yz ⟨_,k.out⟩) ?_;refine w1 7 2 (by kernel_rfl) rfl ?_;go_wp2_with fail;refine(joined_any _ _ _ l [r] W hkr (by have:=(sl_no k.out.fact).from (i:=1) (by omega);simpa using this) (by have:=(sl_no k.out.fact).upto (i:=1) (by omega);simpa using this) (fun r hr=>HO.out r (by simp[hr])) (fun q hq=>HO.out q (by simp at hq;simp[hq])) (by simp at hle⊢ <;>omega) (by simp)).mono ?_;rintro e W1 ⟨v',rfl,hown,hb⟩;obtain⟨A',c',rfl,_⟩:=yb hown;have hf:=zV hown (fun q hq=>(HR.out q (by simp at hq⊢;first|exact hq|(rcases hq with h|h;exact .inr h;exact .inl h))).int.size) k.out.lt;replace k:=zj (k.out.call hb);clear hkr hown hb;generalize (l++ [r]).length=n' at hf⊢;go_wp2_with fail;refine zd (yz ⟨_,k.out⟩) ?_;refine zq [(8,some 16,[9])] [?v4_8] 1 (by kernel_rfl) ⟨_,k.out⟩ ?l4 ?h4;case l4=>
    intro w' hSw;have r0:=hSw.cell 0 rfl;have r1:=hSw.cell 1 rfl;refine zu rfl rfl (by rfl) ?_ ?_
    ·go_simp
     try(with_reducible rfl)
    try simp only[Act.put,tS,t0,t1]
    trivial
   simp only[zw,zk,Act.put,tS,t0,t1];refine w1 9 0 (by kernel_rfl) rfl ?_;replace k:=zj (k.out.add hf (zb _ _ _));clear hf;go_wp2_with((with_reducible refine zx ?_);refine soa k rfl rfl rfl .a0 (by rfl) (by rfl) (zm rfl) ?_;clear k;intro W k);refine zd (zJ rfl) ?_;refine zv (by kernel_rfl) ?_ _;go_wp2_with fail;exact bodyPost_ret (yj rfl _ rfl (zY k.out 0 rfl 45 (Tryz.isAgg45 _) (Tryz.sizeOf45 _) rfl)) rfl ⟨_,_,_,rfl,k.out.out.2,(fun q hq=> .inl (by simp at hq⊢;first|exact hq|(rcases hq with hq|rfl;exact .inr hq;exact .inl rfl))),(by simp),k.out.end⟩
end Go.Proofs.YtaccidkgnkmagaaGreatDoor.Top
