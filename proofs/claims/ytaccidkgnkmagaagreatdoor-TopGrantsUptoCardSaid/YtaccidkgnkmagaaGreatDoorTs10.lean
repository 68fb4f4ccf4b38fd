/-
  Walks and laws of the whole machine: Pipe, Kern5, Kern6, Kern7. Conditions: each theorem names its own.
-/
import Derived.Test.YtaccidkgnkmagaaGreatDoorTs09
import Derived.Lib.MinMax
set_option maxRecDepth 16000
set_option maxHeartbeats 12800000
set_option linter.unusedVariables false
set_option linter.unusedSimpArgs false
namespace Go.Proofs.YtaccidkgnkmagaaGreatDoor.Top
open Go.RowKit
def PWriteR(r u:Int)(w:World)(e:Ending)(w':World):Prop:= ∃(d:ByteArray) (i x:Int),e= .returned (.tuple #[.agg #[.string d,.int .i64 r,.int .i64 u],.int .i64 i,.int .i64 x])/\d.size<=8/\0<=i/\i<=8/\(x=0\/x=6\/x=14)/\Below w.heap.size w w'
theorem pwrite_any(d s:ByteArray)(r u:Int)(w:World)(hd:d.size<=8)(hs:s.size<=64):Calls Tryz.prog 181 #[.agg #[.string d,.int .i64 r,.int .i64 u],.string s] w (PWriteR r u w):=by
 have k:Hid (St (fun _=>False) (fun _=>False) w [] (fun _ _=>True) (fun _=>False) w):=St.begin (fun _ h=>h.elim) trivial xZ;by_cases he:s.toList=[]
 ·have he2:s.toList.isEmpty=true:=by rw[he];rfl
  go_enter Tryz.func181,Tryz.ntmps181;go_wp2_with(first|((with_reducible refine zz ?_);first|(refine zl k rfl rfl .a1 (by rfl) ?_)|(refine lda k rfl rfl .a1 (by rfl) ?_))|((with_reducible refine zx ?_);refine soa k rfl rfl rfl .a0 (by rfl) (by rfl) (zm rfl) ?_;clear k;intro W k)|((with_reducible refine zI ?_);refine yt k rfl rfl rfl ?_;clear k;intro b X W k)|((with_reducible refine zf ?_);refine zG k rfl (T:=170) rfl (Tryz.zeroValue170 _) ?_;clear k;intro b X W k));exact bodyPost_ret (yg rfl _ rfl rfl rfl (zY k.out 0 rfl 170 (Tryz.isAgg170 _) (Tryz.sizeOf170 _) rfl)) rfl ⟨d,0,0,rfl,hd,by omega,by omega,by omega,k.out.end⟩
 ·have he2:s.toList.isEmpty=false:=by cases h:s.toList with|nil=>exact absurd h he|cons _ _=>rfl
  by_cases hr:r<=0
  ·go_enter Tryz.func181,Tryz.ntmps181
   go_wp2_with(first|((with_reducible refine zz ?_);first|(refine zl k rfl rfl .a1 (by rfl) ?_)|(refine lda k rfl rfl .a1 (by rfl) ?_))|((with_reducible refine zx ?_);refine soa k rfl rfl rfl .a0 (by rfl) (by rfl) (zm rfl) ?_;clear k;intro W k)|((with_reducible refine zI ?_);refine yt k rfl rfl rfl ?_;clear k;intro b X W k)|((with_reducible refine zf ?_);refine zG k rfl (T:=170) rfl (Tryz.zeroValue170 _) ?_;clear k;intro b X W k));exact bodyPost_ret (yg rfl _ rfl rfl rfl (zY k.out 0 rfl 170 (Tryz.isAgg170 _) (Tryz.sizeOf170 _) rfl)) rfl ⟨d,0,14,rfl,hd,by omega,by omega,by omega,k.out.end⟩
  ·by_cases hf:d.size=8
   ·have hf2:(8:Int)-(d.size:Int)<=0:=by omega
    go_enter Tryz.func181,Tryz.ntmps181;go_wp2_with(first|((with_reducible refine zz ?_);first|(refine zl k rfl rfl .a1 (by rfl) ?_)|(refine lda k rfl rfl .a1 (by rfl) ?_))|((with_reducible refine zx ?_);refine soa k rfl rfl rfl .a0 (by rfl) (by rfl) (zm rfl) ?_;clear k;intro W k)|((with_reducible refine zI ?_);refine yt k rfl rfl rfl ?_;clear k;intro b X W k)|((with_reducible refine zf ?_);refine zG k rfl (T:=170) rfl (Tryz.zeroValue170 _) ?_;clear k;intro b X W k));exact bodyPost_ret (yg rfl _ rfl rfl rfl (zY k.out 0 rfl 170 (Tryz.isAgg170 _) (Tryz.sizeOf170 _) rfl)) rfl ⟨d,0,6,rfl,hd,by omega,by omega,by omega,k.out.end⟩
   ·have hf2: ¬((8:Int)-(d.size:Int)<=0):=by omega
    obtain⟨m,hm,hm1,hm2⟩: ∃m:Nat,min ((8:Int)-(d.size:Int)) (s.size:Int)=m/\m<=s.size/\m+d.size<=8:=⟨(min ((8:Int)-(d.size:Int)) (s.size:Int)).toNat,by omega,by omega,by omega⟩;go_enter Tryz.func181,Tryz.ntmps181
    go_upto_region 9 with(first|((with_reducible refine zz ?_);refine zl k rfl rfl .a1 (by rfl) ?_)|((with_reducible refine zI ?_);refine yt k rfl rfl rfl ?_;clear k;intro b X W k)|((with_reducible refine zf ?_);refine zG k rfl (T:=170) rfl (Tryz.zeroValue170 _) ?_;clear k;intro b X W k))
    have hm3:(0:Int)<=(m:Int):=by omega
    have hm4:(m:Int)<=(s.size:Int):=by omega
    have hcs:(9223372036854775807<d.size+m)=False:=by rw[eq_iff_iff,iff_false];omega
    have hfin:(d++s.extract 0 m).size<=8:=by rw[ByteArray.size_append,ByteArray.size_extract];omega
    have HF:=Lib.hid hfin;clear hfin hf2;have HPer:=Lib.hid k.out.per;refine zt k 7 8 (by kernel_rfl) rfl ?_;clear k;intro W k;refine zq [(0,some 30,[7]),(1,some 31,[7]),(2,some 32,[7]),(3,some 33,[7]),(4,some 34,[7]),(5,some 35,[7]),(6,some 36,[7])] [?v1_0,?v1_1,?v1_2,?v1_3,?v1_4,?v1_5,?v1_6] 1 (by kernel_rfl) ⟨_,k.out⟩ ?l1 ?h1;case l1=>
     intro w' hSw;have r0:=hSw.cell 0 rfl;have r1:=hSw.cell 1 rfl;refine zu rfl rfl (by rfl) ?_ ?_
     ·go_simp
      try(with_reducible rfl)
     try simp only[Act.put,tS,t0,t1]
     refine zu rfl rfl (by rfl) ?_ ?_
     ·go_simp
      try(with_reducible rfl)
     try simp only[Act.put,tS,t0,t1]
     refine zu rfl rfl (by rfl) ?_ ?_
     ·go_simp
      try(with_reducible rfl)
     try simp only[Act.put,tS,t0,t1]
     refine zu rfl rfl (by rfl) ?_ ?_
     ·go_simp
      try(with_reducible rfl)
     try simp only[Act.put,tS,t0,t1]
     refine zu rfl rfl (by rfl) ?_ ?_
     ·go_simp
      try(with_reducible rfl)
     try simp only[Act.put,tS,t0,t1]
     refine zu rfl rfl (by rfl) ?_ ?_
     ·go_simp
      try(with_reducible rfl)
     try simp only[Act.put,tS,t0,t1]
     refine zu rfl rfl (by rfl) ?_ ?_
     ·go_simp
      try(with_reducible rfl)
     try simp only[Act.put,tS,t0,t1]
     trivial
    simp only[zw,zk,Act.put,tS,t0,t1];refine w1 7 0 (by kernel_rfl) rfl ?_;go_wp2_with((with_reducible refine zx ?_);refine so1 k rfl rfl rfl (by rfl) .a1 (by rfl) rfl ?_;clear k;intro W k);refine zd (zJ rfl) ?_;refine zv (by kernel_rfl) ?_ _;go_wp2_with(first|((with_reducible refine zz ?_);refine lda k rfl rfl .a1 (by rfl) ?_)|((with_reducible refine zx ?_);refine soa k rfl rfl rfl .a0 (by rfl) (by rfl) (zm rfl) ?_;clear k;intro W k));exact bodyPost_ret (yg rfl _ rfl rfl rfl (zY k.out 0 rfl 170 (Tryz.isAgg170 _) (Tryz.sizeOf170 _) rfl)) rfl ⟨d++s.extract 0 m,m,0,rfl,HF.out,by omega,by omega,by omega,k.out.end⟩
def PReadR(r u:Int)(n:Int)(w:World)(e:Ending)(w':World):Prop:= ∃(d s:ByteArray) (x:Int),e= .returned (.tuple #[.agg #[.string d,.int .i64 r,.int .i64 u],.string s,.int .i64 x])/\d.size<=8/\s.size<=8/\(0<=n->(s.size:Int)<=n)/\(x=0\/x=6\/x=14)/\Below w.heap.size w w'
theorem pread_any(d:ByteArray)(r u n:Int)(w:World)(hd:d.size<=8)(hn0:0<=n)(hn1:n<4294967296):Calls Tryz.prog 182 #[.agg #[.string d,.int .i64 r,.int .i64 u],.int .i64 n] w (PReadR r u n w):=by
 have k:Hid (St (fun _=>False) (fun _=>False) w [] (fun _ _=>True) (fun _=>False) w):=St.begin (fun _ h=>h.elim) trivial xZ;have hneg:decide (n<0)=false:=decide_eq_false (by omega);by_cases h0:n=0
 ·subst h0
  go_enter Tryz.func182,Tryz.ntmps182;go_wp2_with(first|((with_reducible refine zp ?_);first|go_big_skip)|((with_reducible refine zz ?_);refine lda k rfl rfl .a1 (by rfl) ?_)|((with_reducible refine zx ?_);refine soa k rfl rfl rfl .a0 (by rfl) (by rfl) (zm rfl) ?_;clear k;intro W k)|((with_reducible refine zI ?_);refine yt k rfl rfl rfl ?_;clear k;intro b X W k)|((with_reducible refine zf ?_);refine zG k rfl (T:=170) rfl (Tryz.zeroValue170 _) ?_;clear k;intro b X W k));exact bodyPost_ret (yg rfl _ rfl rfl rfl (zY k.out 0 rfl 170 (Tryz.isAgg170 _) (Tryz.sizeOf170 _) rfl)) rfl ⟨d,⟨#[]⟩,0,rfl,hd,by simp[ByteArray.size],(fun _=>by simp[ByteArray.size]),by omega,k.out.end⟩
 ·have hpos:0<n:=by omega
  have h0b:(n==0)=false:=by rw[beq_eq_false_iff_ne];exact h0
  by_cases he:d.toList=[]
  ·have he2:d.toList.isEmpty=true:=by rw[he];rfl
   by_cases hu:0<u;all_goals
    go_enter Tryz.func182,Tryz.ntmps182;go_wp2_with(first|((with_reducible refine zp ?_);first|refine zg rfl rfl rfl (by with_reducible rfl) ?_)|((with_reducible refine zz ?_);first|(refine zl k rfl rfl .a1 (by rfl) ?_)|(refine lda k rfl rfl .a1 (by rfl) ?_))|((with_reducible refine zx ?_);refine soa k rfl rfl rfl .a0 (by rfl) (by rfl) (zm rfl) ?_;clear k;intro W k)|((with_reducible refine zI ?_);refine yt k rfl rfl rfl ?_;clear k;intro b X W k)|((with_reducible refine zf ?_);refine zG k rfl (T:=170) rfl (Tryz.zeroValue170 _) ?_;clear k;intro b X W k));exact bodyPost_ret (yg rfl _ rfl rfl rfl (zY k.out 0 rfl 170 (Tryz.isAgg170 _) (Tryz.sizeOf170 _) rfl)) rfl ⟨d,⟨#[]⟩,_,rfl,hd,by simp[ByteArray.size],(fun _=>by simp[ByteArray.size];try omega),by omega,k.out.end⟩
  ·have he2:d.toList.isEmpty=false:=by cases h:d.toList with|nil=>exact absurd h he|cons _ _=>rfl
   obtain⟨m,hm,hm1,hm2⟩: ∃m:Nat,min n (d.size:Int)=m/\m<=d.size/\(m:Int)<=n:=⟨(min n (d.size:Int)).toNat,by omega,by omega,by omega⟩;have hm3:(0:Int)<=(m:Int):=by omega
   have hm4:(m:Int)<=(d.size:Int):=by omega
   have hs1:(d.extract 0 m).size<=8:=by rw[ByteArray.size_extract];omega
   have hs2:(d.extract m d.size).size<=8:=by rw[ByteArray.size_extract];omega
   have hs3:((d.extract 0 m).size:Int)<=n:=by rw[ByteArray.size_extract];omega
   have H1:=Lib.hid hs1;have H2:=Lib.hid hs2;have H3:=Lib.hid hs3;clear hs1 hs2 hs3;go_enter Tryz.func182,Tryz.ntmps182;go_wp2_with(first|((with_reducible refine zp ?_);first|go_big_skip|refine zg rfl rfl rfl (by with_reducible rfl) ?_)|((with_reducible refine zz ?_);first|(refine zl k rfl rfl .a1 (by rfl) ?_)|(refine lda k rfl rfl .a1 (by rfl) ?_))|((with_reducible refine zx ?_);first|(refine so1 k rfl rfl rfl (by rfl) .a1 (by rfl) rfl ?_;clear k;intro W k)|(refine soa k rfl rfl rfl .a0 (by rfl) (by rfl) (zm rfl) ?_;clear k;intro W k))|((with_reducible refine zI ?_);refine yt k rfl rfl rfl ?_;clear k;intro b X W k)|((with_reducible refine zf ?_);refine zG k rfl (T:=170) rfl (Tryz.zeroValue170 _) ?_;clear k;intro b X W k));exact bodyPost_ret (yg rfl _ rfl rfl rfl (zY k.out 0 rfl 170 (Tryz.isAgg170 _) (Tryz.sizeOf170 _) rfl)) rfl ⟨d.extract m d.size,d.extract 0 m,0,rfl,H2.out,H1.out,(fun _=>H3.out),by omega,k.out.end⟩
theorem xg{z:Int}(h0: -9223372036854775808<=z)(h1:z<=9223372036854775807):IntKind.i64.wrap z=z:=by
 simp only[IntKind.wrap,IntKind.bits,IntKind.signed];simp;omega
theorem mem_at{r:Array Value}(h:Ty yu r): ∃mm:ByteArray,r.toList[12]? =some (.string mm)/\mm.size<=64:=by
 obtain⟨s,h1,h2⟩:=h.str 12 rfl;exact⟨s,by rw[Array.getElem?_toList];exact h1,h2⟩
theorem vX{base e size n:Nat}{g cap:Nat}{l:List (Array Value)}{w:World}(hown:w.ownsRow base e size (.slice (some ⟨g,0,none⟩) n cap) n (yy l))(hn:l.length=n)(hs: ∀r∈l,r.size=size)(h0:0<n): ∃C,base<=g/\Blk w g C e/\Rw size n cap C l:=by
 obtain⟨g',cap',cur,ev,hbg,hk,hnc,hcm,hcs,ht⟩:=xI hown h0;injection ev with e1 _ e2;injection e1 with e1;injection e1 with e1;subst e1 e2;exact⟨cur,hbg,hk,hnc,hcm,hcs,ht,hn,hs⟩
theorem pipe_fit{d:ByteArray}{a b:Int}(h:Ty vl #[.string d,.int .i64 a,.int .i64 b]):d.size<=8/\(-9223372036854775808<=a/\a<=9223372036854775807)/\(-9223372036854775808<=b/\b<=9223372036854775807):=by
 obtain⟨⟨s,e1,h1⟩,⟨y,e2,h2⟩,⟨z,e3,h3⟩,_⟩:=h;cases e1;cases e2;cases e3;exact⟨h1,h2,h3⟩
theorem does_pipe{bk n s m:Nat}{x:Kn}{X0 X:Nat->Prop}{w W:World}{bs:List (Nat×Array Value×TypeId)}{g cap q:Nat}{C:Array Value}{d:ByteArray}{a b:Int}(k:St (fun k=>k=bk) X0 w ((g,patch C (q*3) #[.string d,.int .i64 a,.int .i64 b],170)::bs) (KSl x) X W)(i:Nat)
  (hi:bs[i]? =some (bk,KC {x with vPi:= .slice (some ⟨g,0,none⟩) x.Pi.length cap},116)) (hw:Blk w bk (KC x) 116) (hX: ∀b,X0 b->b<w.heap.size) (hg:w.heap.size<=g) (hok:KOk n s m x) (hrw:Rw 3 x.Pi.length cap C x.Pi) (hq:q<x.Pi.length) (hd:Ty vl #[.string d,.int .i64 a,.int .i64 b])
  {p:Int} (hr:p∈xh x.P) {v y:Int} (h0:0<=v) (h1:v<4294967296):qX bk (n+1) s (m+1) x X0 w (Zw x p) (.returned (.tuple #[.int .u32 v,.int .i64 y])) W:=by
 have k2:=k.release (i:=0) rfl hg hX bs rfl;have hr2:=hrw.set hq (r:= #[.string d,.int .i64 a,.int .i64 b]) rfl;have hsl:KSl {x with vPi:= .slice (some ⟨g,0,none⟩) x.Pi.length cap,Pi:=x.Pi.set q #[.string d,.int .i64 a,.int .i64 b]} (fun b=>X b/\b≠g) W:={k2.fact with Pi:=hr2.sl (k.blk (i:=0) rfl) (fun h=>h.2 rfl)};exact k2.kpost (x':={x with vPi:= .slice (some ⟨g,0,none⟩) x.Pi.length cap,Pi:=x.Pi.set q #[.string d,.int .i64 a,.int .i64 b]}) i hi hw hsl {hok.mono (Nat.le_succ n) (Nat.le_refl _) (Nat.le_succ m) with Pi:=set_all hok.Pi hd,Pil:=by simp only[List.length_set];exact hok.Pil} ⟨rfl,rfl,rfl,rfl⟩ ⟨v,y,rfl,h0,h1,Liv.refl _,hr,rfl,rfl⟩
theorem twrites_any(bk n s m:Nat)(x:Kn)(X0:Nat->Prop)(w:World)(h:KPre bk n s m x X0 w)(r:Array Value)(hr:r∈x.P)(N A B C:Int)(hc:qk N A B C):
  Calls Tryz.prog 147 #[.pointer (some ⟨bk,0,none⟩),.agg r,.agg #[.int .u32 N,.int .u32 A,.int .u32 B,.int .u32 C]] w (qX bk (n+1) s (m+1) x X0 w (Zw x (zX r))):=by
 have k:=zj h.begin;have OK:=Lib.hid h.ok;have HB:=Lib.hid h.blk;have hn:=h.hn;have hm:=h.hm;have HR:Hid (Ty yu r):=h.ok.P.ty r hr;have HM:=Lib.hid hr;have HI:=Lib.hid (xk hr);have HPar:=Lib.hid (h.ok.P.par r hr);have hs:=h.hs;have hrs:r.size=26:=HR.out.size;have hro:=HR.out.one;obtain⟨Ap,cp,eP,hcp,_⟩:=h.sl.Pi.len;have hX0:=h.lt;clear hr h;obtain⟨mm,emm,hmm⟩:=mem_at HR.out;go_enter Tryz.func147,Tryz.ntmps147;go_wp2_with(first|((with_reducible refine zz ?_);first|(refine ld1 k rfl rfl (by repeat constructor) (by rfl) ?_)|(refine lda k rfl rfl .a1 (by assumption) ?_))|((with_reducible refine zI ?_);refine bxa k rfl ?_;clear k;intro b X W k));refine(end_any bk n s m x _ _ ⟨k.out.blk (i:=2) rfl,(k.out.box (i:=2) rfl).1,k.out.lt,k.out.fact,OK.out,(by omega),(by omega),(by omega)⟩ r HR.out A hc.2.1).mono ?_;rintro e W1 ⟨d0,g0,b0,rfl,hd0,hd1,hd2,hb⟩;replace k:=zj (k.out.call hb);clear hb;cases b0 with
 |false=>
  go_wp2_with(first|((with_reducible refine zp ?_);first|go_big_skip)|((with_reducible refine zx ?_);refine soa k rfl rfl rfl .a0 (by rfl) (by rfl) (zm rfl) ?_;clear k;intro W k)|((with_reducible refine zf ?_);refine ala k Tryz.zeroValue127 ?_;clear k;intro b127 X W k))
  go_ret2
  exact xv k.out 3 rfl HB.out k.out.fact OK.out HI.out (by omega) (by omega)
 |true=>
  obtain⟨h0,h4,h5,h6⟩:=hd2 rfl;clear hd2;cases g0 with
  |false=>
   go_wp2_with(first|((with_reducible refine zp ?_);first|refine zg rfl rfl rfl (by with_reducible rfl) ?_)|((with_reducible refine zz ?_);refine ld1 k rfl rfl .a0 (by rfl) ?_)|((with_reducible refine zx ?_);refine soa k rfl rfl rfl .a0 (by rfl) (by rfl) (zm rfl) ?_;clear k;intro W k)|((with_reducible refine zf ?_);refine ala k Tryz.zeroValue127 ?_;clear k;intro b127 X W k))
   go_ret2
   exact xv k.out 3 rfl HB.out k.out.fact OK.out HI.out (by omega) (by omega)
  |true=>
   go_wp2_with(first|((with_reducible refine zp ?_);first|refine zg rfl rfl rfl (by with_reducible rfl) ?_)|((with_reducible refine zz ?_);refine ld1 k rfl rfl (by repeat constructor) (by first|rfl|assumption) ?_)|((with_reducible refine zx ?_);refine soa k rfl rfl rfl .a0 (by rfl) (by rfl) (zm rfl) ?_;clear k;intro W k)|((with_reducible refine zf ?_);refine ala k Tryz.zeroValue127 ?_;clear k;intro b127 X W k));refine(out_any mm B C _ (by unfold maxLen;omega) hc.2.2.1.1 hc.2.2.1.2 hc.2.2.2.1 hc.2.2.2.2).mono ?_;rintro e W1 ⟨s,y,rfl,hs,_,hy,rfl⟩;replace hs:s.size<=64:=Nat.le_trans hs hmm;rcases hy with rfl|rfl
   ·obtain⟨q,rfl,hq⟩: ∃q:Nat,d0=(q:Int)+1/\q<x.Pi.length:=⟨(d0-1).toNat,by omega,by omega⟩
    obtain⟨row,hrow⟩: ∃row,x.Pi[q]? =some row:=⟨_,List.getElem?_eq_getElem hq⟩;have hrt:=OK.out.Pi _ (List.mem_of_getElem? hrow);obtain⟨pd,pr,pu,rfl⟩:=pipe_lit hrt;obtain⟨hpd,hpr,hpu⟩:=pipe_fit hrt;have hsl:=k.out.fact.Pi;rw[eP] at hsl;obtain⟨bp,op,rfl,_⟩:=hsl.row hrow (by decide);clear hsl h5 h6 hd0 hd1;have hqz:(q:Int)<x.Pi.length:=by omega
    have hwq:IntKind.i64.wrap (q:Int)=q:=xg (by omega) (by have:=OK.out.Pil;omega)
    go_upto_region 7 with fail
    have HPer:=Lib.hid k.out.per;refine zt k 17 20 (by kernel_rfl) rfl ?_;clear k;intro W k;refine zq [(0,some 43,[17]),(1,some 44,[17]),(2,some 45,[17]),(3,some 46,[17]),(4,some 47,[17]),(5,some 48,[17]),(6,some 49,[17]),(7,some 50,[17]),(8,some 51,[17]),(9,some 52,[17]),(10,some 53,[17])] [?v13_0,?v13_1,?v13_2,?v13_3,?v13_4,?v13_5,?v13_6,?v13_7,?v13_8,?v13_9,?v13_10] 9 (by kernel_rfl) ⟨_,k.out⟩ ?l13 ?h13;case l13=>
     intro w' hSw;iterate 9
      refine lkw rfl rfl (by rfl) ?_ ?_
      ·first|((with_reducible refine yw ?_);first|exact hSw.l1 rfl rfl (by repeat constructor) (by rfl))|(go_simp<;>with_reducible rfl)
      try simp only[Act.put,tS,t0,t1]
     refine lkw rfl rfl (by rfl) ?_ ?_
     ·refine yG rfl ?_
      obtain⟨X',hX'⟩:=hSw.get;have hs':=hX'.Pi;rw[eP] at hs';exact jJ hs' hrow (by decide) (Tryz.isAgg170 _) (Tryz.sizeOf170 _)
     try simp only[Act.put,tS,t0,t1]
     refine lkw rfl rfl (by rfl) ?_ ?_
     ·go_simp<;>with_reducible rfl
     try simp only[Act.put,tS,t0,t1]
     trivial
    simp only[zw,zk,Act.put,tS,t0,t1];refine yI (i:=11) (j:=16) (fuel:=8) (by kernel_rfl) rfl rfl ?_ ?_
    ·go_wp2_with fail
     refine(pwrite_any pd s pr pu _ hpd hs).mono ?_;rintro e W1 ⟨dd,ii,xx,rfl,hdd,hi0,hi1,hxx,hb⟩;replace k:=zj (k.out.call hb);clear hb;go_wp2_with fail;refine zd (yz ⟨_,k.out⟩) ?_;refine zq [(12,some 42,[17]),(13,some 55,[17])] [?v14_12,?v14_13] 6 (by kernel_rfl) ⟨_,k.out⟩ ?l14 ?h14;case l14=>
      intro w' hSw;iterate 2
       refine lkw rfl rfl (by rfl) ?_ ?_
       ·go_simp<;>with_reducible rfl
       try simp only[Act.put,tS,t0,t1]
      trivial
     simp only[zw,zk,Act.put,tS,t0,t1];refine zU [(14,some 56,[]),(15,some 57,[])] [?v15_14,?v15_15] 4 (by kernel_rfl) (.inl ⟨_,k.out⟩) ?l15 ?h15;case l15=>
      intro w';iterate 2
       refine lkw rfl rfl (by rfl) ?_ ?_
       ·go_simp<;>with_reducible rfl
       try simp only[Act.put,tS,t0,t1]
      trivial
     simp only[zw,zk,Act.put,tS,t0,t1];refine w1 16 3 (by kernel_rfl) rfl ?_;go_wp2_with((with_reducible refine zf ?_);refine zG k rfl (T:=170) rfl (Tryz.zeroValue170 _) ?_;clear k;intro b X W k);refine zd (yz ⟨_,k.out.drop (n:=1)⟩) ?_;refine w1 17 2 (by kernel_rfl) rfl ?_;go_wp2_with((with_reducible refine zx ?_);refine yl k 0 rfl (T:=170) rfl rfl rfl rfl (Tryz.sizeOf170 _) rfl rfl (zm rfl) ?_;clear k;intro W k);refine zd (zJ rfl) ?_;refine zU [(18,some 13,[]),(19,some 11,[])] [?v16_18,?v16_19] 0 (by kernel_rfl) (.inr (by kernel_rfl)) ?l16 ?h16;case l16=>
      intro w';iterate 2
       refine lkw rfl rfl (by rfl) ?_ ?_
       ·go_simp<;>with_reducible rfl
       try simp only[Act.put,tS,t0,t1]
      trivial
     simp only[zw,zk,Act.put,tS,t0,t1];refine zv (by kernel_rfl) ?_ _;clear HPer;rcases hxx with rfl|rfl|rfl
     ·go_wp2_with((with_reducible refine zz ?_);refine ld1 k rfl rfl .a4 (by rfl) ?_)
      have hsl:=k.out.fact.Pi;rw[eP] at hsl;refine(jf _ x.Pi X _ hsl (fun r hr=>(OK.out.Pi r hr).one) (by have:=OK.out.Pil;omega)).mono ?_;rintro e W1 ⟨v2,rfl,hown,hb⟩;clear hsl;obtain⟨A2,cap,rfl,_⟩:=yb hown;obtain⟨g,cap',cur,ev,hbg,hgk,_⟩:=xI hown (by omega);injection ev with ev1 _ ev2;subst ev1 ev2;obtain⟨cur,hbg,hgk,hRw⟩:=vX hown rfl (fun r hr=>(OK.out.Pi r hr).size) (by omega);have hgw:w.heap.size<=g:=Nat.le_trans k.out.only.size hbg;have hfit:q*3+3<=cur.size:=hRw.fits hq;replace k:=zj (k.out.adopt hb hbg hgk);clear hown hb hgk hbg
      go_upto_region 11 with((with_reducible refine zx ?_);refine so1 k rfl rfl rfl rfl .a5 (by rfl) (E:=KC {x with vPi:= .slice (some ⟨g,0,none⟩) x.Pi.length cap}) (by rfl) ?_;clear k;intro W k)
      have HPer:=Lib.hid k.out.per;refine zt k 10 11 (by kernel_rfl) rfl ?_;clear k;intro W k;refine zq [(0,some 71,[10]),(1,some 72,[10]),(2,some 73,[10]),(3,some 74,[10]),(4,some 75,[10]),(5,some 76,[10]),(6,some 77,[10]),(7,some 78,[10]),(8,some 79,[10]),(9,some 80,[10])] [?v17_0,?v17_1,?v17_2,?v17_3,?v17_4,?v17_5,?v17_6,?v17_7,?v17_8,?v17_9] 1 (by kernel_rfl) ⟨_,k.out⟩ ?l17 ?h17;case l17=>
       intro w' hSw;iterate 10
        refine lkw rfl rfl (by rfl) ?_ ?_
        ·first|((with_reducible refine yw ?_);first|exact hSw.l1 rfl rfl (by repeat constructor) (by rfl)|exact hSw.la rfl rfl .a1 (by rfl) (by rfl)|exact hSw.lp rfl rfl (by repeat constructor) (D:= #[_,_,_]) (by rfl) (by rfl) (by rfl))|(go_simp<;>with_reducible rfl)
        try simp only[Act.put,tS,t0,t1]
       trivial
      simp only[zw,zk,Act.put,tS,t0,t1];refine w1 10 0 (by kernel_rfl) rfl ?_;go_wp2_with((with_reducible refine zx ?_);refine xm k 0 rfl (T:=170) rfl rfl rfl rfl (Tryz.sizeOf170 _) rfl hfit (zm rfl) ?_;clear k;intro W k);refine zd (zJ rfl) ?_;refine zv (by kernel_rfl) ?_ _;clear HPer;go_wp2_with fail;replace k:Hid (St _ _ _ [(g,patch cur (q*3) #[.string dd,.int .i64 pr,.int .i64 pu],_),(_,_,_),(_,_,_),(_,_,_),(_,_,_),(_,KC {x with vPi:= .slice (some ⟨g,0,none⟩) x.Pi.length cap},_)] _ _ _):=k;have hty:Ty vl #[.string dd,.int .i64 pr,.int .i64 pu]:=⟨Zk hdd,yY hpr.1 hpr.2,yY hpu.1 hpu.2,trivial⟩;have hi2:ii<4294967296:=by omega
      exact bodyPost_ret (xJ rfl rfl rfl) rfl (does_pipe (C:=cur) (q:=q) k.out 4 rfl HB.out hX0 hgw OK.out hRw hq hty HI.out hi0 hi2)
     all_goals
      go_wp2_with fail
      go_ret2
      exact xv k.out 4 rfl HB.out k.out.fact OK.out HI.out (by omega) (by omega)
    ·go_wp2_with((with_reducible refine zf ?_);refine zG k rfl (T:=170) rfl (Tryz.zeroValue170 _) ?_;clear k;intro b X W k)
     refine zd (yz ⟨_,k.out.drop (n:=1)⟩) ?_;refine w1 11 7 (by kernel_rfl) rfl ?_;go_wp2_with fail;refine(pwrite_any pd s pr pu _ hpd hs).mono ?_;rintro e W1 ⟨dd,ii,xx,rfl,hdd,hi0,hi1,hxx,hb⟩;replace k:=zj (k.out.call hb);clear hb;go_wp2_with fail;refine zd (yz ⟨_,k.out.drop (n:=1)⟩) ?_;refine zq [(12,some 42,[17]),(13,some 55,[17])] [?v18_12,?v18_13] 5 (by kernel_rfl) ⟨_,k.out.drop (n:=1)⟩ ?l18 ?h18;case l18=>
      intro w' hSw;iterate 2
       refine lkw rfl rfl (by rfl) ?_ ?_
       ·go_simp<;>with_reducible rfl
       try simp only[Act.put,tS,t0,t1]
      trivial
     simp only[zw,zk,Act.put,tS,t0,t1];refine zU [(14,some 56,[]),(15,some 57,[])] [?v19_14,?v19_15] 3 (by kernel_rfl) (.inl ⟨_,k.out.drop (n:=1)⟩) ?l19 ?h19;case l19=>
      intro w';iterate 2
       refine lkw rfl rfl (by rfl) ?_ ?_
       ·go_simp<;>with_reducible rfl
       try simp only[Act.put,tS,t0,t1]
      trivial
     simp only[zw,zk,Act.put,tS,t0,t1];refine w1 17 2 (by kernel_rfl) rfl ?_;go_wp2_with((with_reducible refine zx ?_);refine yl k 0 rfl (T:=170) rfl rfl rfl rfl (Tryz.sizeOf170 _) rfl rfl (zm rfl) ?_;clear k;intro W k);refine zd (zJ rfl) ?_;refine zU [(18,some 13,[]),(19,some 11,[])] [?v20_18,?v20_19] 0 (by kernel_rfl) (.inr (by kernel_rfl)) ?l20 ?h20;case l20=>
      intro w';iterate 2
       refine lkw rfl rfl (by rfl) ?_ ?_
       ·go_simp<;>with_reducible rfl
       try simp only[Act.put,tS,t0,t1]
      trivial
     simp only[zw,zk,Act.put,tS,t0,t1];refine zv (by kernel_rfl) ?_ _;clear HPer;rcases hxx with rfl|rfl|rfl
     ·go_wp2_with((with_reducible refine zz ?_);refine ld1 k rfl rfl .a4 (by rfl) ?_)
      have hsl:=k.out.fact.Pi;rw[eP] at hsl;refine(jf _ x.Pi X _ hsl (fun r hr=>(OK.out.Pi r hr).one) (by have:=OK.out.Pil;omega)).mono ?_;rintro e W1 ⟨v2,rfl,hown,hb⟩;clear hsl;obtain⟨A2,cap,rfl,_⟩:=yb hown;obtain⟨g,cap',cur,ev,hbg,hgk,_⟩:=xI hown (by omega);injection ev with ev1 _ ev2;subst ev1 ev2;obtain⟨cur,hbg,hgk,hRw⟩:=vX hown rfl (fun r hr=>(OK.out.Pi r hr).size) (by omega);have hgw:w.heap.size<=g:=Nat.le_trans k.out.only.size hbg;have hfit:q*3+3<=cur.size:=hRw.fits hq;replace k:=zj (k.out.adopt hb hbg hgk);clear hown hb hgk hbg
      go_upto_region 11 with((with_reducible refine zx ?_);refine so1 k rfl rfl rfl rfl .a5 (by rfl) (E:=KC {x with vPi:= .slice (some ⟨g,0,none⟩) x.Pi.length cap}) (by rfl) ?_;clear k;intro W k)
      have HPer:=Lib.hid k.out.per;refine zt k 10 11 (by kernel_rfl) rfl ?_;clear k;intro W k;refine zq [(0,some 71,[10]),(1,some 72,[10]),(2,some 73,[10]),(3,some 74,[10]),(4,some 75,[10]),(5,some 76,[10]),(6,some 77,[10]),(7,some 78,[10]),(8,some 79,[10]),(9,some 80,[10])] [?v21_0,?v21_1,?v21_2,?v21_3,?v21_4,?v21_5,?v21_6,?v21_7,?v21_8,?v21_9] 1 (by kernel_rfl) ⟨_,k.out⟩ ?l21 ?h21;case l21=>
       intro w' hSw;iterate 10
        refine lkw rfl rfl (by rfl) ?_ ?_
        ·first|((with_reducible refine yw ?_);first|exact hSw.l1 rfl rfl (by repeat constructor) (by rfl)|exact hSw.la rfl rfl .a1 (by rfl) (by rfl)|exact hSw.lp rfl rfl (by repeat constructor) (D:= #[_,_,_]) (by rfl) (by rfl) (by rfl))|(go_simp<;>with_reducible rfl)
        try simp only[Act.put,tS,t0,t1]
       trivial
      simp only[zw,zk,Act.put,tS,t0,t1];refine w1 10 0 (by kernel_rfl) rfl ?_;go_wp2_with((with_reducible refine zx ?_);refine xm k 0 rfl (T:=170) rfl rfl rfl rfl (Tryz.sizeOf170 _) rfl hfit (zm rfl) ?_;clear k;intro W k);refine zd (zJ rfl) ?_;refine zv (by kernel_rfl) ?_ _;clear HPer;go_wp2_with fail;replace k:Hid (St _ _ _ [(g,patch cur (q*3) #[.string dd,.int .i64 pr,.int .i64 pu],_),(_,_,_),(_,_,_),(_,_,_),(_,_,_),(_,KC {x with vPi:= .slice (some ⟨g,0,none⟩) x.Pi.length cap},_)] _ _ _):=k;have hty:Ty vl #[.string dd,.int .i64 pr,.int .i64 pu]:=⟨Zk hdd,yY hpr.1 hpr.2,yY hpu.1 hpu.2,trivial⟩;have hi2:ii<4294967296:=by omega
      exact bodyPost_ret (xJ rfl rfl rfl) rfl (does_pipe (C:=cur) (q:=q) k.out 4 rfl HB.out hX0 hgw OK.out hRw hq hty HI.out hi0 hi2)
     all_goals
      go_wp2_with fail
      go_ret2
      exact xv k.out 4 rfl HB.out k.out.fact OK.out HI.out (by omega) (by omega)
   ·go_wp2_with fail
    go_ret2
    exact xv k.out 3 rfl HB.out k.out.fact OK.out HI.out (by omega) (by omega)
theorem mem_set{r:Array Value}(h:Ty yu r){s:ByteArray}(hs:s.size<=64):Ty yu (r.setIfInBounds 12 (.string s))/\zX (r.setIfInBounds 12 (.string s))=zX r/\ym (r.setIfInBounds 12 (.string s))=ym r/\qV (r.setIfInBounds 12 (.string s))=qV r:=by
 have hl: ∀j,j≠12->zQ (r.setIfInBounds 12 (.string s)) j=zQ r j:=fun j hj=>by
  unfold zQ;rw[Array.getElem?_setIfInBounds_ne (Ne.symm hj)]
 exact⟨h.set (j:=12) rfl (Zk hs),hl 0 (by decide),hl 1 (by decide),hl 2 (by decide)⟩
theorem treads_any(bk n s m:Nat)(x:Kn)(X0:Nat->Prop)(w:World)(h:KPre bk n s m x X0 w)(r:Array Value)(hr:r∈x.P)(N A B C:Int)(hc:qk N A B C):
  Calls Tryz.prog 148 #[.pointer (some ⟨bk,0,none⟩),.agg r,.agg #[.int .u32 N,.int .u32 A,.int .u32 B,.int .u32 C]] w (qX bk (n+1) s (m+1) x X0 w (Zw x (zX r))):=by
 have k:=zj h.begin;have OK:=Lib.hid h.ok;have HB:=Lib.hid h.blk;have hn:=h.hn;have hm:=h.hm;have HR:Hid (Ty yu r):=h.ok.P.ty r hr;have HM:=Lib.hid hr;have HI:=Lib.hid (xk hr);have HPar:=Lib.hid (h.ok.P.par r hr);have hs:=h.hs;have hrs:r.size=26:=HR.out.size;have hro:=HR.out.one;obtain⟨Ap,cp,eP,hcp,_⟩:=h.sl.Pi.len;have hX0:=h.lt;clear hr h;obtain⟨mm,emm,hmm⟩:=mem_at HR.out;go_enter Tryz.func148,Tryz.ntmps148;go_wp2_with(first|((with_reducible refine zz ?_);first|(refine ld1 k rfl rfl (by repeat constructor) (by rfl) ?_)|(refine lda k rfl rfl .a1 (by assumption) ?_))|((with_reducible refine zI ?_);refine bxa k rfl ?_;clear k;intro b X W k));refine(end_any bk n s m x _ _ ⟨k.out.blk (i:=2) rfl,(k.out.box (i:=2) rfl).1,k.out.lt,k.out.fact,OK.out,(by omega),(by omega),(by omega)⟩ r HR.out A hc.2.1).mono ?_;rintro e W1 ⟨d0,g0,b0,rfl,hd0,hd1,hd2,hb⟩;replace k:=zj (k.out.call hb);clear hb;cases b0 with
 |false=>
  go_wp2_with(first|((with_reducible refine zp ?_);first|go_big_skip)|((with_reducible refine zx ?_);refine soa k rfl rfl rfl .a0 (by rfl) (by rfl) (zm rfl) ?_;clear k;intro W k)|((with_reducible refine zf ?_);refine ala k Tryz.zeroValue127 ?_;clear k;intro b127 X W k))
  go_ret2
  exact xv k.out 3 rfl HB.out k.out.fact OK.out HI.out (by omega) (by omega)
 |true=>
  obtain⟨h0,h4,h5,h6⟩:=hd2 rfl;clear hd2;cases g0 with
  |true=>
   go_wp2_with(first|((with_reducible refine zp ?_);first|refine zg rfl rfl rfl (by with_reducible rfl) ?_)|((with_reducible refine zz ?_);refine ld1 k rfl rfl .a0 (by rfl) ?_)|((with_reducible refine zx ?_);refine soa k rfl rfl rfl .a0 (by rfl) (by rfl) (zm rfl) ?_;clear k;intro W k)|((with_reducible refine zf ?_);refine ala k Tryz.zeroValue127 ?_;clear k;intro b127 X W k))
   go_ret2
   exact xv k.out 3 rfl HB.out k.out.fact OK.out HI.out (by omega) (by omega)
  |false=>
   go_wp2_with(first|((with_reducible refine zp ?_);first|refine zg rfl rfl rfl (by with_reducible rfl) ?_)|((with_reducible refine zz ?_);refine ld1 k rfl rfl (by repeat constructor) (by first|rfl|assumption) ?_)|((with_reducible refine zx ?_);refine soa k rfl rfl rfl .a0 (by rfl) (by rfl) (zm rfl) ?_;clear k;intro W k)|((with_reducible refine zf ?_);refine ala k Tryz.zeroValue127 ?_;clear k;intro b127 X W k));refine(out_any mm B C _ (by unfold maxLen;omega) hc.2.2.1.1 hc.2.2.1.2 hc.2.2.2.1 hc.2.2.2.2).mono ?_;rintro e W1 ⟨s0,y,rfl,_,_,hy,rfl⟩;rcases hy with rfl|rfl
   ·obtain⟨q,rfl,hq⟩: ∃q:Nat,d0=(q:Int)+1/\q<x.Pi.length:=⟨(d0-1).toNat,by omega,by omega⟩
    obtain⟨row,hrow⟩: ∃row,x.Pi[q]? =some row:=⟨_,List.getElem?_eq_getElem hq⟩;have hrt:=OK.out.Pi _ (List.mem_of_getElem? hrow);obtain⟨pd,pr,pu,rfl⟩:=pipe_lit hrt;obtain⟨hpd,hpr,hpu⟩:=pipe_fit hrt;have hsl:=k.out.fact.Pi;rw[eP] at hsl;obtain⟨bp,op,rfl,_⟩:=hsl.row hrow (by decide);clear hsl h5 h6 hd0 hd1;have hqz:(q:Int)<x.Pi.length:=by omega
    have hwq:IntKind.i64.wrap (q:Int)=q:=xg (by omega) (by have:=OK.out.Pil;omega);have hwC:IntKind.i64.wrap C=C:=xg (by have:=hc.2.2.2.1;omega) (by have:=hc.2.2.2.2;omega)
    go_upto_region 7 with fail
    have HPer:=Lib.hid k.out.per;refine zt k 19 22 (by kernel_rfl) rfl ?_;clear k;intro W k;refine zq [(0,some 43,[19]),(1,some 44,[19]),(2,some 45,[19]),(3,some 46,[19]),(4,some 47,[19]),(5,some 48,[19]),(6,some 49,[19]),(7,some 50,[19]),(8,some 51,[19]),(9,some 52,[19]),(10,some 53,[19]),(11,some 54,[19]),(12,some 55,[19])] [?v22_0,?v22_1,?v22_2,?v22_3,?v22_4,?v22_5,?v22_6,?v22_7,?v22_8,?v22_9,?v22_10,?v22_11,?v22_12] 9 (by kernel_rfl) ⟨_,k.out⟩ ?l22 ?h22;case l22=>
     intro w' hSw;iterate 9
      refine lkw rfl rfl (by rfl) ?_ ?_
      ·first|((with_reducible refine yw ?_);first|exact hSw.l1 rfl rfl (by repeat constructor) (by rfl))|(go_simp<;>with_reducible rfl)
      try simp only[Act.put,tS,t0,t1]
     refine lkw rfl rfl (by rfl) ?_ ?_
     ·refine yG rfl ?_
      obtain⟨X',hX'⟩:=hSw.get;have hs':=hX'.Pi;rw[eP] at hs';exact jJ hs' hrow (by decide) (Tryz.isAgg170 _) (Tryz.sizeOf170 _)
     try simp only[Act.put,tS,t0,t1]
     iterate 3
      refine lkw rfl rfl (by rfl) ?_ ?_
      ·first|((with_reducible refine yw ?_);first|exact hSw.l1 rfl rfl .a1 (by rfl))|(go_simp<;>with_reducible rfl)
      try simp only[Act.put,tS,t0,t1]
     trivial
    simp only[zw,zk,Act.put,tS,t0,t1];refine yI (i:=13) (j:=18) (fuel:=8) (by kernel_rfl) rfl rfl ?_ ?_
    ·go_wp2_with fail
     refine(pread_any pd pr pu C _ hpd hc.2.2.2.1 hc.2.2.2.2).mono ?_;rintro e W1 ⟨dd,ss,xx,rfl,hdd,hss,hsn,hxx,hb⟩;replace k:=zj (k.out.call hb);clear hb;go_wp2_with fail;refine zd (yz ⟨_,k.out⟩) ?_;refine zq [(14,some 42,[19]),(15,some 57,[19])] [?v23_14,?v23_15] 6 (by kernel_rfl) ⟨_,k.out⟩ ?l23 ?h23;case l23=>
      intro w' hSw;iterate 2
       refine lkw rfl rfl (by rfl) ?_ ?_
       ·go_simp<;>with_reducible rfl
       try simp only[Act.put,tS,t0,t1]
      trivial
     simp only[zw,zk,Act.put,tS,t0,t1];refine zU [(16,some 58,[]),(17,some 59,[])] [?v24_16,?v24_17] 4 (by kernel_rfl) (.inl ⟨_,k.out⟩) ?l24 ?h24;case l24=>
      intro w';iterate 2
       refine lkw rfl rfl (by rfl) ?_ ?_
       ·go_simp<;>with_reducible rfl
       try simp only[Act.put,tS,t0,t1]
      trivial
     simp only[zw,zk,Act.put,tS,t0,t1];refine w1 18 3 (by kernel_rfl) rfl ?_;go_wp2_with((with_reducible refine zf ?_);refine zG k rfl (T:=170) rfl (Tryz.zeroValue170 _) ?_;clear k;intro b X W k);refine zd (yz ⟨_,k.out.drop (n:=1)⟩) ?_;refine w1 19 2 (by kernel_rfl) rfl ?_;go_wp2_with((with_reducible refine zx ?_);refine yl k 0 rfl (T:=170) rfl rfl rfl rfl (Tryz.sizeOf170 _) rfl rfl (zm rfl) ?_;clear k;intro W k);refine zd (zJ rfl) ?_;refine zU [(20,some 13,[]),(21,some 14,[])] [?v25_20,?v25_21] 0 (by kernel_rfl) (.inr (by kernel_rfl)) ?l25 ?h25;case l25=>
      intro w';iterate 2
       refine lkw rfl rfl (by rfl) ?_ ?_
       ·go_simp<;>with_reducible rfl
       try simp only[Act.put,tS,t0,t1]
      trivial
     simp only[zw,zk,Act.put,tS,t0,t1];refine zv (by kernel_rfl) ?_ _;clear HPer;rcases hxx with rfl|rfl|rfl
     ·go_wp2_with((with_reducible refine zz ?_);refine ld1 k rfl rfl (by repeat constructor) (by first|rfl|assumption) ?_)
      refine(in_any mm ss B _ (by unfold maxLen;omega) (by omega) hc.2.2.1.1 hc.2.2.1.2).mono ?_;rintro e W1 ⟨kk,z,rfl,hkk,hz,hb⟩;replace k:=zj (k.out.call hb);clear hb;obtain⟨hT,hpi,hpa,hst⟩:=mem_set HR.out (s:=kk) (by omega);have hag:=OK.out.P.again HM.out hT hpi hpa hst;have hf12:Nat.blt 12 r.size=true:=by rw[hrs];rfl
      go_upto_region 11 with((with_reducible refine zx ?_);refine so1 k rfl rfl rfl (by rfl) .a3 (by assumption) rfl ?_;clear k;intro W k)
      replace k:Hid (St _ _ _ [(_,_,_),(_,_,_),(_,_,_),(_,r.setIfInBounds 12 (.string kk),_),(_,_,_)] _ _ _):=k;generalize r.setIfInBounds 12 (.string kk)=r' at k hT hag;have hrs':r'.size=26:=hT.size;obtain⟨hPO,hLv,hIn⟩:=hag;have HT:=Lib.hid hT;have HIn:=Lib.hid hIn;clear hT hIn hf12;generalize hlP:jV x.P r'=lP at hPO hLv HIn;go_wp2_with((with_reducible refine zz ?_);refine ld1 k rfl rfl .a4 (by rfl) ?_);have hsl:=k.out.fact.Pi;rw[eP] at hsl;refine(jf _ x.Pi X _ hsl (fun r hr=>(OK.out.Pi r hr).one) (by have:=OK.out.Pil;omega)).mono ?_;rintro e W1 ⟨v2,rfl,hown,hb⟩;clear hsl;obtain⟨A2,cap,rfl,_⟩:=yb hown;obtain⟨g,cap',cur,ev,hbg,hgk,_⟩:=xI hown (by omega);injection ev with ev1 _ ev2
      subst ev1 ev2;obtain⟨cur,hbg,hgk,hRw⟩:=vX hown rfl (fun r hr=>(OK.out.Pi r hr).size) (by omega);have hgw:w.heap.size<=g:=Nat.le_trans k.out.only.size hbg;have hfit:q*3+3<=cur.size:=hRw.fits hq;replace k:=zj (k.out.adopt hb hbg hgk);clear hown hb hgk hbg
      go_upto_region 12 with((with_reducible refine zx ?_);refine so1 k rfl rfl rfl rfl .a5 (by rfl) (E:=KC {x with vPi:= .slice (some ⟨g,0,none⟩) x.Pi.length cap}) (by rfl) ?_;clear k;intro W k)
      have HPer:=Lib.hid k.out.per;refine zt k 10 11 (by kernel_rfl) rfl ?_;clear k;intro W k;refine zq [(0,some 83,[10]),(1,some 84,[10]),(2,some 85,[10]),(3,some 86,[10]),(4,some 87,[10]),(5,some 88,[10]),(6,some 89,[10]),(7,some 90,[10]),(8,some 91,[10]),(9,some 92,[10])] [?v26_0,?v26_1,?v26_2,?v26_3,?v26_4,?v26_5,?v26_6,?v26_7,?v26_8,?v26_9] 1 (by kernel_rfl) ⟨_,k.out⟩ ?l26 ?h26;case l26=>
       intro w' hSw;iterate 10
        refine lkw rfl rfl (by rfl) ?_ ?_
        ·first|((with_reducible refine yw ?_);first|exact hSw.l1 rfl rfl (by repeat constructor) (by rfl)|exact hSw.la rfl rfl .a1 (by rfl) (by rfl)|exact hSw.lp rfl rfl (by repeat constructor) (D:= #[_,_,_]) (by rfl) (by rfl) (by rfl))|(go_simp<;>with_reducible rfl)
        try simp only[Act.put,tS,t0,t1]
       trivial
      simp only[zw,zk,Act.put,tS,t0,t1];refine w1 10 0 (by kernel_rfl) rfl ?_;go_wp2_with((with_reducible refine zx ?_);refine xm k 0 rfl (T:=170) rfl rfl rfl rfl (Tryz.sizeOf170 _) rfl hfit (zm rfl) ?_;clear k;intro W k);refine zd (zJ rfl) ?_;refine zv (by kernel_rfl) ?_ _;clear HPer;replace k:Hid (St _ _ _ [(g,patch cur (q*3) #[.string dd,.int .i64 pr,.int .i64 pu],_),(_,_,_),(_,_,_),(_,_,_),(_,_,_),(_,KC {x with vPi:= .slice (some ⟨g,0,none⟩) x.Pi.length cap},_)] _ _ _):=k
      go_upto_region 13 with fail
      have HPer:=Lib.hid k.out.per;refine zt k 11 12 (by kernel_rfl) rfl ?_;clear k;intro W k;refine zq [(0,some 93,[11]),(1,some 94,[11]),(2,some 95,[11]),(3,some 96,[11]),(4,some 97,[11]),(5,some 98,[11]),(6,some 99,[11])] [?v27_0,?v27_1,?v27_2,?v27_3,?v27_4,?v27_5,?v27_6] 5 (by kernel_rfl) ⟨_,k.out⟩ ?l27 ?h27;case l27=>
       intro w' hSw;iterate 7
        refine lkw rfl rfl (by rfl) ?_ ?_
        ·first|((with_reducible refine yw ?_);first|exact hSw.l1 rfl rfl (by repeat constructor) (by rfl)|exact hSw.la rfl rfl .a4 (by assumption) (by rfl))|(go_simp<;>with_reducible rfl)
        try simp only[Act.put,tS,t0,t1]
       trivial
      simp only[zw,zk,Act.put,tS,t0,t1];refine w1 7 4 (by kernel_rfl) rfl ?_;go_wp2_with fail;refine(vj _ x.P r' _ _ k.out.fact.P OK.out.P.ty HT.out (by have:=OK.out.P.len;omega)).mono ?_;rw[hlP];rintro e W1 ⟨v1,rfl,hown,hb⟩;have hv1:=xu hown;have hf:=zV hown (fun q hq=>(hPO.ty q hq).size) k.out.lt;replace k:=zj (k.out.call hb);clear hown hb;go_wp2_with fail;refine zd (yz ⟨_,k.out⟩) ?_;refine zq [(8,some 101,[9,10,11]),(9,some 102,[10,11]),(10,some 103,[11])] [?v28_8,?v28_9,?v28_10] 1 (by kernel_rfl) ⟨_,k.out⟩ ?l28 ?h28;case l28=>
       intro w' hSw;iterate 3
        refine lkw rfl rfl (by rfl) ?_ ?_
        ·go_simp<;>with_reducible rfl
        try simp only[Act.put,tS,t0,t1]
       trivial
      simp only[zw,zk,Act.put,tS,t0,t1];refine w1 11 0 (by kernel_rfl) rfl ?_;replace k:=zj (k.out.add hf (zb _ _ _));clear hf;go_wp2_with((with_reducible refine zx ?_);refine yE k (E:=KC {x with vPi:= .slice (some ⟨g,0,none⟩) x.Pi.length cap,vP:=v1}) (G':=fun X W=>KSl x X W/\Sl 26 v1 lP X W) rfl rfl rfl hv1 .a5 (by rfl) (by rfl) ((zO x).and (zb _ _ _)) (fun X W h=>h) ?_;clear k;intro W k);refine zd (zJ rfl) ?_;refine zv (by kernel_rfl) ?_ _;clear HPer;have hss2:(ss.size:Int)<4294967296:=by omega
      go_wp2_with fail;have hty:Ty vl #[.string dd,.int .i64 pr,.int .i64 pu]:=⟨Zk hdd,yY hpr.1 hpr.2,yY hpu.1 hpu.2,trivial⟩;have k2:=k.out.release (i:=0) rfl hgw hX0 [(_,_,_),(_,_,_),(_,_,_),(_,_,_),(_,_,_)] rfl;have hsl:KSl {x with vPi:= .slice (some ⟨g,0,none⟩) x.Pi.length cap,Pi:=x.Pi.set q #[.string dd,.int .i64 pr,.int .i64 pu],vP:=v1,P:=lP} _ W:={k2.fact.1 with Pi:=(hRw.set hq (r:= #[.string dd,.int .i64 pr,.int .i64 pu]) rfl).sl (k.out.blk (i:=0) rfl) (fun h=>h.2 rfl),P:=k2.fact.2};exact bodyPost_ret (xJ rfl rfl rfl) rfl (k2.kpost (x':={x with vPi:= .slice (some ⟨g,0,none⟩) x.Pi.length cap,Pi:=x.Pi.set q #[.string dd,.int .i64 pr,.int .i64 pu],vP:=v1,P:=lP}) 4 rfl HB.out hsl {OK.out.mono (Nat.le_succ n) (Nat.le_refl _) (Nat.le_succ m) with P:=hPO.mono (Nat.le_succ n),Pi:=set_all OK.out.Pi hty,Pil:=by simp only[List.length_set];exact OK.out.Pil} ⟨rfl,rfl,rfl,rfl⟩ ⟨_,_,rfl,by omega,hss2,hLv,HIn.out,rfl,rfl⟩)
     all_goals
      go_wp2_with fail
      go_ret2
      exact xv k.out 4 rfl HB.out k.out.fact OK.out HI.out (by omega) (by omega)
    ·go_wp2_with((with_reducible refine zf ?_);refine zG k rfl (T:=170) rfl (Tryz.zeroValue170 _) ?_;clear k;intro b X W k)
     refine zd (yz ⟨_,k.out.drop (n:=1)⟩) ?_;refine w1 13 7 (by kernel_rfl) rfl ?_;go_wp2_with fail;refine(pread_any pd pr pu C _ hpd hc.2.2.2.1 hc.2.2.2.2).mono ?_;rintro e W1 ⟨dd,ss,xx,rfl,hdd,hss,hsn,hxx,hb⟩;replace k:=zj (k.out.call hb);clear hb;go_wp2_with fail;refine zd (yz ⟨_,k.out.drop (n:=1)⟩) ?_;refine zq [(14,some 42,[19]),(15,some 57,[19])] [?v29_14,?v29_15] 5 (by kernel_rfl) ⟨_,k.out.drop (n:=1)⟩ ?l29 ?h29;case l29=>
      intro w' hSw;iterate 2
       refine lkw rfl rfl (by rfl) ?_ ?_
       ·go_simp<;>with_reducible rfl
       try simp only[Act.put,tS,t0,t1]
      trivial
     simp only[zw,zk,Act.put,tS,t0,t1];refine zU [(16,some 58,[]),(17,some 59,[])] [?v30_16,?v30_17] 3 (by kernel_rfl) (.inl ⟨_,k.out.drop (n:=1)⟩) ?l30 ?h30;case l30=>
      intro w';iterate 2
       refine lkw rfl rfl (by rfl) ?_ ?_
       ·go_simp<;>with_reducible rfl
       try simp only[Act.put,tS,t0,t1]
      trivial
     simp only[zw,zk,Act.put,tS,t0,t1];refine w1 19 2 (by kernel_rfl) rfl ?_;go_wp2_with((with_reducible refine zx ?_);refine yl k 0 rfl (T:=170) rfl rfl rfl rfl (Tryz.sizeOf170 _) rfl rfl (zm rfl) ?_;clear k;intro W k);refine zd (zJ rfl) ?_;refine zU [(20,some 13,[]),(21,some 14,[])] [?v31_20,?v31_21] 0 (by kernel_rfl) (.inr (by kernel_rfl)) ?l31 ?h31;case l31=>
      intro w';iterate 2
       refine lkw rfl rfl (by rfl) ?_ ?_
       ·go_simp<;>with_reducible rfl
       try simp only[Act.put,tS,t0,t1]
      trivial
     simp only[zw,zk,Act.put,tS,t0,t1];refine zv (by kernel_rfl) ?_ _;clear HPer;rcases hxx with rfl|rfl|rfl
     ·go_wp2_with((with_reducible refine zz ?_);refine ld1 k rfl rfl (by repeat constructor) (by first|rfl|assumption) ?_)
      refine(in_any mm ss B _ (by unfold maxLen;omega) (by omega) hc.2.2.1.1 hc.2.2.1.2).mono ?_;rintro e W1 ⟨kk,z,rfl,hkk,hz,hb⟩;replace k:=zj (k.out.call hb);clear hb;obtain⟨hT,hpi,hpa,hst⟩:=mem_set HR.out (s:=kk) (by omega);have hag:=OK.out.P.again HM.out hT hpi hpa hst;have hf12:Nat.blt 12 r.size=true:=by rw[hrs];rfl
      go_upto_region 11 with((with_reducible refine zx ?_);refine so1 k rfl rfl rfl (by rfl) .a3 (by assumption) rfl ?_;clear k;intro W k)
      replace k:Hid (St _ _ _ [(_,_,_),(_,_,_),(_,_,_),(_,r.setIfInBounds 12 (.string kk),_),(_,_,_)] _ _ _):=k;generalize r.setIfInBounds 12 (.string kk)=r' at k hT hag;have hrs':r'.size=26:=hT.size;obtain⟨hPO,hLv,hIn⟩:=hag;have HT:=Lib.hid hT;have HIn:=Lib.hid hIn;clear hT hIn hf12;generalize hlP:jV x.P r'=lP at hPO hLv HIn;go_wp2_with((with_reducible refine zz ?_);refine ld1 k rfl rfl .a4 (by rfl) ?_);have hsl:=k.out.fact.Pi;rw[eP] at hsl;refine(jf _ x.Pi X _ hsl (fun r hr=>(OK.out.Pi r hr).one) (by have:=OK.out.Pil;omega)).mono ?_;rintro e W1 ⟨v2,rfl,hown,hb⟩;clear hsl;obtain⟨A2,cap,rfl,_⟩:=yb hown;obtain⟨g,cap',cur,ev,hbg,hgk,_⟩:=xI hown (by omega);injection ev with ev1 _ ev2
      subst ev1 ev2;obtain⟨cur,hbg,hgk,hRw⟩:=vX hown rfl (fun r hr=>(OK.out.Pi r hr).size) (by omega);have hgw:w.heap.size<=g:=Nat.le_trans k.out.only.size hbg;have hfit:q*3+3<=cur.size:=hRw.fits hq;replace k:=zj (k.out.adopt hb hbg hgk);clear hown hb hgk hbg
      go_upto_region 12 with((with_reducible refine zx ?_);refine so1 k rfl rfl rfl rfl .a5 (by rfl) (E:=KC {x with vPi:= .slice (some ⟨g,0,none⟩) x.Pi.length cap}) (by rfl) ?_;clear k;intro W k)
      have HPer:=Lib.hid k.out.per;refine zt k 10 11 (by kernel_rfl) rfl ?_;clear k;intro W k;refine zq [(0,some 83,[10]),(1,some 84,[10]),(2,some 85,[10]),(3,some 86,[10]),(4,some 87,[10]),(5,some 88,[10]),(6,some 89,[10]),(7,some 90,[10]),(8,some 91,[10]),(9,some 92,[10])] [?v32_0,?v32_1,?v32_2,?v32_3,?v32_4,?v32_5,?v32_6,?v32_7,?v32_8,?v32_9] 1 (by kernel_rfl) ⟨_,k.out⟩ ?l32 ?h32;case l32=>
       intro w' hSw;iterate 10
        refine lkw rfl rfl (by rfl) ?_ ?_
        ·first|((with_reducible refine yw ?_);first|exact hSw.l1 rfl rfl (by repeat constructor) (by rfl)|exact hSw.la rfl rfl .a1 (by rfl) (by rfl)|exact hSw.lp rfl rfl (by repeat constructor) (D:= #[_,_,_]) (by rfl) (by rfl) (by rfl))|(go_simp<;>with_reducible rfl)
        try simp only[Act.put,tS,t0,t1]
       trivial
      simp only[zw,zk,Act.put,tS,t0,t1];refine w1 10 0 (by kernel_rfl) rfl ?_;go_wp2_with((with_reducible refine zx ?_);refine xm k 0 rfl (T:=170) rfl rfl rfl rfl (Tryz.sizeOf170 _) rfl hfit (zm rfl) ?_;clear k;intro W k);refine zd (zJ rfl) ?_;refine zv (by kernel_rfl) ?_ _;clear HPer;replace k:Hid (St _ _ _ [(g,patch cur (q*3) #[.string dd,.int .i64 pr,.int .i64 pu],_),(_,_,_),(_,_,_),(_,_,_),(_,_,_),(_,KC {x with vPi:= .slice (some ⟨g,0,none⟩) x.Pi.length cap},_)] _ _ _):=k
      go_upto_region 13 with fail
      have HPer:=Lib.hid k.out.per;refine zt k 11 12 (by kernel_rfl) rfl ?_;clear k;intro W k;refine zq [(0,some 93,[11]),(1,some 94,[11]),(2,some 95,[11]),(3,some 96,[11]),(4,some 97,[11]),(5,some 98,[11]),(6,some 99,[11])] [?v33_0,?v33_1,?v33_2,?v33_3,?v33_4,?v33_5,?v33_6] 5 (by kernel_rfl) ⟨_,k.out⟩ ?l33 ?h33;case l33=>
       intro w' hSw;iterate 7
        refine lkw rfl rfl (by rfl) ?_ ?_
        ·first|((with_reducible refine yw ?_);first|exact hSw.l1 rfl rfl (by repeat constructor) (by rfl)|exact hSw.la rfl rfl .a4 (by assumption) (by rfl))|(go_simp<;>with_reducible rfl)
        try simp only[Act.put,tS,t0,t1]
       trivial
      simp only[zw,zk,Act.put,tS,t0,t1];refine w1 7 4 (by kernel_rfl) rfl ?_;go_wp2_with fail;refine(vj _ x.P r' _ _ k.out.fact.P OK.out.P.ty HT.out (by have:=OK.out.P.len;omega)).mono ?_;rw[hlP];rintro e W1 ⟨v1,rfl,hown,hb⟩;have hv1:=xu hown;have hf:=zV hown (fun q hq=>(hPO.ty q hq).size) k.out.lt;replace k:=zj (k.out.call hb);clear hown hb;go_wp2_with fail;refine zd (yz ⟨_,k.out⟩) ?_;refine zq [(8,some 101,[9,10,11]),(9,some 102,[10,11]),(10,some 103,[11])] [?v34_8,?v34_9,?v34_10] 1 (by kernel_rfl) ⟨_,k.out⟩ ?l34 ?h34;case l34=>
       intro w' hSw;iterate 3
        refine lkw rfl rfl (by rfl) ?_ ?_
        ·go_simp<;>with_reducible rfl
        try simp only[Act.put,tS,t0,t1]
       trivial
      simp only[zw,zk,Act.put,tS,t0,t1];refine w1 11 0 (by kernel_rfl) rfl ?_;replace k:=zj (k.out.add hf (zb _ _ _));clear hf;go_wp2_with((with_reducible refine zx ?_);refine yE k (E:=KC {x with vPi:= .slice (some ⟨g,0,none⟩) x.Pi.length cap,vP:=v1}) (G':=fun X W=>KSl x X W/\Sl 26 v1 lP X W) rfl rfl rfl hv1 .a5 (by rfl) (by rfl) ((zO x).and (zb _ _ _)) (fun X W h=>h) ?_;clear k;intro W k);refine zd (zJ rfl) ?_;refine zv (by kernel_rfl) ?_ _;clear HPer;have hss2:(ss.size:Int)<4294967296:=by omega
      go_wp2_with fail;have hty:Ty vl #[.string dd,.int .i64 pr,.int .i64 pu]:=⟨Zk hdd,yY hpr.1 hpr.2,yY hpu.1 hpu.2,trivial⟩;have k2:=k.out.release (i:=0) rfl hgw hX0 [(_,_,_),(_,_,_),(_,_,_),(_,_,_),(_,_,_)] rfl;have hsl:KSl {x with vPi:= .slice (some ⟨g,0,none⟩) x.Pi.length cap,Pi:=x.Pi.set q #[.string dd,.int .i64 pr,.int .i64 pu],vP:=v1,P:=lP} _ W:={k2.fact.1 with Pi:=(hRw.set hq (r:= #[.string dd,.int .i64 pr,.int .i64 pu]) rfl).sl (k.out.blk (i:=0) rfl) (fun h=>h.2 rfl),P:=k2.fact.2};exact bodyPost_ret (xJ rfl rfl rfl) rfl (k2.kpost (x':={x with vPi:= .slice (some ⟨g,0,none⟩) x.Pi.length cap,Pi:=x.Pi.set q #[.string dd,.int .i64 pr,.int .i64 pu],vP:=v1,P:=lP}) 4 rfl HB.out hsl {OK.out.mono (Nat.le_succ n) (Nat.le_refl _) (Nat.le_succ m) with P:=hPO.mono (Nat.le_succ n),Pi:=set_all OK.out.Pi hty,Pil:=by simp only[List.length_set];exact OK.out.Pil} ⟨rfl,rfl,rfl,rfl⟩ ⟨_,_,rfl,by omega,hss2,hLv,HIn.out,rfl,rfl⟩)
     all_goals
      go_wp2_with fail
      go_ret2
      exact xv k.out 4 rfl HB.out k.out.fact OK.out HI.out (by omega) (by omega)
   ·go_wp2_with fail
    go_ret2
    exact xv k.out 3 rfl HB.out k.out.fact OK.out HI.out (by omega) (by omega)
theorem fds_of{r:Array Value}(h:Ty yu r): ∃F:Array Value,Ty kFds F/\(r.toList.drop 14).take 8=F.toList/\Nat.ble (14+8) r.size=true:=by
 have hs:r.size=26:=h.size;exact⟨r.extract 14 (14+8),h.part 14 8 (by decide),by simp,by rw[hs];rfl⟩
theorem fds_all{r F:Array Value}(h:Ty yu r)(hF:Ty kFds F):Ty yu (patch r 14 F)/\zX (patch r 14 F)=zX r/\ym (patch r 14 F)=ym r/\qV (patch r 14 F)=qV r:=by
 have hs:r.size=26:=h.size;have hl: ∀j,j<14->zQ (patch r 14 F) j=zQ r j:=fun j hj=>by
  unfold zQ;rw[jw r _ _ j (by omega) (by omega)]
 exact⟨h.patch hF 14 rfl (by decide),hl 0 (by omega),hl 1 (by omega),hl 2 (by omega)⟩
theorem tpipes_any(bk n s m:Nat)(x:Kn)(X0:Nat->Prop)(w:World)(h:KPre bk n s m x X0 w)(r:Array Value)(hr:r∈x.P)(N A B C:Int)(hc:qk N A B C):
  Calls Tryz.prog 146 #[.pointer (some ⟨bk,0,none⟩),.agg r,.agg #[.int .u32 N,.int .u32 A,.int .u32 B,.int .u32 C]] w (qX bk (n+1) s (m+1) x X0 w (Zw x (zX r))):=by
 have k:=zj h.begin;have OK:=Lib.hid h.ok;have HB:=Lib.hid h.blk;have hn:=h.hn;have hm:=h.hm;have HR:Hid (Ty yu r):=h.ok.P.ty r hr;have HM:=Lib.hid hr;have HI:=Lib.hid (xk hr);have HPar:=Lib.hid (h.ok.P.par r hr);have hs:=h.hs;have hrs:r.size=26:=HR.out.size;have hro:=HR.out.one;obtain⟨Ap,cp,eP,hcp,_⟩:=h.sl.Pi.len;have hX0:=h.lt;clear hr h;obtain⟨F,hF,eF,fF⟩:=fds_of HR.out;go_enter Tryz.func146,Tryz.ntmps146;go_wp2_with(first|((with_reducible refine zz ?_);refine ld1 k rfl rfl .a2 (by rfl) ?_)|((with_reducible refine zI ?_);refine bxa k rfl ?_;clear k;intro b X W k));refine(pmake_any _ x.Pi _ _ (by have q:=k.out.fact.Pi;rw[eP] at q;exact q) OK.out.Pi OK.out.Pil k.out.lt).mono ?_;rintro e W1 ⟨v2,l2,p,y,rfl,hl1,hl2,hl3,hp0,hp1,hy,hb⟩;have hv2:=hl1.one;replace k:=zj ((k.out.call hb).add hl1 (zb _ _ _));clear hb hl1;rcases hy with rfl|rfl
 ·go_wp2_with((with_reducible refine zz ?_);refine ldp k rfl rfl .a1 (D:=F) eF fF ?_)
  refine(pset_any F p false _ hF (by omega) (by omega)).mono ?_;rintro e W1 ⟨F1,i1,y,rfl,hF1,hi0,hi1,hy,hb⟩;replace k:=zj (k.out.call hb);have hf1:F1.size=8:=hF1.size;have ho1:=hF1.one;clear hb;rcases hy with rfl|rfl
  ·go_wp2_with(first|((with_reducible refine zz ?_);refine lda k rfl rfl .a0 (by assumption) ?_)|((with_reducible refine zx ?_);refine yl k 0 rfl (T:=128) rfl rfl rfl rfl (Tryz.sizeOf128 _) (by assumption) (by rfl) (by assumption) ?_;clear k;intro W k)|((with_reducible refine zf ?_);refine ala k Tryz.zeroValue128 ?_;clear k;intro b128 X W k))
   refine(pset_any F1 p true _ hF1 (by omega) (by omega)).mono ?_;rintro e W1 ⟨F2,i2,y,rfl,hF2,hj0,hj1,hy,hb⟩;replace k:=zj (k.out.call hb);have hf2:F2.size=8:=hF2.size;have ho2:=hF2.one;clear hb;rcases hy with rfl|rfl
   ·obtain⟨hT,hpi,hpa,hst⟩:=fds_all HR.out hF2
    have hag:=OK.out.P.again HM.out hT hpi hpa hst;have hfit:14+8<=r.size:=by omega
    go_upto_region 11 with(first|((with_reducible refine zz ?_);refine lda k rfl rfl .a0 (by assumption) ?_)|((with_reducible refine zx ?_);first|(refine yl k 0 rfl (T:=128) rfl rfl rfl rfl (Tryz.sizeOf128 _) (by assumption) (by assumption) (by assumption) ?_;clear k;intro W k)|(refine xm k 2 rfl (T:=128) rfl rfl rfl rfl (Tryz.sizeOf128 _) (by assumption) hfit (by assumption) ?_;clear k;intro W k)))
    replace k:Hid (St _ _ _ [(_,_,_),(_,_,_),(_,patch r 14 F2,_),(_,_,_)] _ _ _):=k;generalize patch r 14 F2=r' at k hT hag;have hrs':r'.size=26:=hT.size;obtain⟨hPO,hLv,hIn⟩:=hag;have HT:=Lib.hid hT;have HIn:=Lib.hid hIn;clear hT hIn;generalize hlP:jV x.P r'=lP at hPO hLv HIn;have HPer:=Lib.hid k.out.per;refine zt k 13 18 (by kernel_rfl) rfl ?_;clear k;intro W k;refine zq [(0,some 52,[13])] [?v22_0] 17 (by kernel_rfl) ⟨_,k.out⟩ ?l22 ?h22;case l22=>
     intro w' hSw;refine lkw rfl rfl (by rfl) ?_ ?_
     ·go_simp<;>with_reducible rfl
     try simp only[Act.put,tS,t0,t1]
     trivial
    simp only[zw,zk,Act.put,tS,t0,t1];refine zU [(1,some 53,[])] [?v23_1] 16 (by kernel_rfl) (.inl ⟨_,k.out⟩) ?l23 ?h23;case l23=>
     intro w';refine lkw rfl rfl (by rfl) ?_ ?_
     ·go_simp<;>with_reducible rfl
     try simp only[Act.put,tS,t0,t1]
     trivial
    simp only[zw,zk,Act.put,tS,t0,t1];refine zq [(2,some 54,[13]),(3,some 55,[4,5,6,7,13]),(4,some 56,[5,6,7,13]),(5,some 57,[6,7,13]),(6,some 58,[7,13]),(7,some 59,[13]),(8,some 60,[9,13])] [?v24_2,?v24_3,?v24_4,?v24_5,?v24_6,?v24_7,?v24_8] 9 (by kernel_rfl) ⟨_,k.out⟩ ?l24 ?h24;case l24=>
     intro w' hSw;iterate 7
      refine lkw rfl rfl (by rfl) ?_ ?_
      ·first|((with_reducible refine yw ?_);first|exact hSw.l1 rfl rfl (by repeat constructor) (by rfl)|exact hSw.la rfl rfl .a2 (by assumption) (by rfl))|(go_simp<;>with_reducible rfl)
      try simp only[Act.put,tS,t0,t1]
     trivial
    simp only[zw,zk,Act.put,tS,t0,t1];refine w1 9 8 (by kernel_rfl) rfl ?_;go_wp2_with fail;refine(vj _ x.P r' _ _ k.out.fact.1.P OK.out.P.ty HT.out (by have:=OK.out.P.len;omega)).mono ?_;rw[hlP];rintro e W1 ⟨v1,rfl,hown,hb⟩;have hv1:=xu hown;have hf:=zV hown (fun q hq=>(hPO.ty q hq).size) k.out.lt;replace k:=zj (k.out.call hb);clear hown hb;go_wp2_with fail;refine zd (yz ⟨_,k.out⟩) ?_;refine zq [(10,some 62,[11,12,13]),(11,some 63,[12,13]),(12,some 64,[13])] [?v25_10,?v25_11,?v25_12] 5 (by kernel_rfl) ⟨_,k.out⟩ ?l25 ?h25;case l25=>
     intro w' hSw;iterate 3
      refine lkw rfl rfl (by rfl) ?_ ?_
      ·go_simp<;>with_reducible rfl
      try simp only[Act.put,tS,t0,t1]
     trivial
    simp only[zw,zk,Act.put,tS,t0,t1];refine w1 13 4 (by kernel_rfl) rfl ?_;replace k:=zj (k.out.add hf (zb _ _ _));clear hf;go_wp2_with((with_reducible refine zx ?_);refine yE k (E:=KC {x with vPi:=v2,Pi:=l2}) (G':=fun X W=>KSl {x with vPi:=v2,Pi:=l2} X W/\Sl 26 v1 lP X W) rfl rfl rfl hv2 .a3 (by rfl) (by rfl) ((zO _).and (zb _ _ _)) (fun X W h=>⟨{h.1.1 with Pi:=h.1.2},h.2⟩) ?_;clear k;intro W k);refine zd (zJ rfl) ?_;refine zU [(14,some 65,[]),(15,some 66,[]),(16,some 67,[])] [?v26_14,?v26_15,?v26_16] 1 (by kernel_rfl) (.inr (by kernel_rfl)) ?l26 ?h26;case l26=>
     intro w';iterate 3
      refine lkw rfl rfl (by rfl) ?_ ?_
      ·go_simp<;>with_reducible rfl
      try simp only[Act.put,tS,t0,t1]
     trivial
    simp only[zw,zk,Act.put,tS,t0,t1];refine w1 17 0 (by kernel_rfl) rfl ?_;go_wp2_with((with_reducible refine zx ?_);refine yE k (E:=KC {x with vPi:=v2,Pi:=l2,vP:=v1,P:=lP}) (G':=KSl {x with vPi:=v2,Pi:=l2,vP:=v1,P:=lP}) rfl rfl rfl hv1 .a3 (by rfl) (by rfl) (zO _) (fun X W h=>{h.1 with P:=h.2}) ?_;clear k;intro W k);refine zd (qb (by kernel_rfl)) ?_;refine zv (by kernel_rfl) ?_ _;clear HPer;go_wp2_with fail;exact bodyPost_ret (xJ rfl rfl rfl) rfl (k.out.kpost 3 rfl HB.out k.out.fact {OK.out.mono (Nat.le_succ n) (Nat.le_refl _) (Nat.le_succ m) with P:=hPO.mono (Nat.le_succ n),Pi:=hl2,Pil:=hl3} ⟨rfl,rfl,rfl,rfl⟩ ⟨_,0,rfl,by omega,by omega,hLv,HIn.out,rfl,rfl⟩)
   ·go_wp2_with((with_reducible refine zx ?_);refine yl k 0 rfl (T:=128) rfl rfl rfl rfl (Tryz.sizeOf128 _) (by assumption) (by assumption) (by assumption) ?_;clear k;intro W k)
    go_ret2
    exact xv k.out 3 rfl HB.out k.out.fact.1 OK.out HI.out (by omega) (by omega)
  ·go_wp2_with(first|((with_reducible refine zx ?_);refine yl k 0 rfl (T:=128) rfl rfl rfl rfl (Tryz.sizeOf128 _) (by assumption) (by rfl) (by assumption) ?_;clear k;intro W k)|((with_reducible refine zf ?_);refine ala k Tryz.zeroValue128 ?_;clear k;intro b128 X W k))
   go_ret2
   exact xv k.out 3 rfl HB.out k.out.fact.1 OK.out HI.out (by omega) (by omega)
 ·go_wp2_with fail
  go_ret2
  exact xv k.out 2 rfl HB.out k.out.fact.1 OK.out HI.out (by omega) (by omega)
end Go.Proofs.YtaccidkgnkmagaaGreatDoor.Top
