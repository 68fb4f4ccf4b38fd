/-
  Walks and laws of the whole machine: Kern8, Kern9. Conditions: each theorem names its own.
-/
import Derived.Test.YtaccidkgnkmagaaGreatDoorTs10
set_option maxRecDepth 16000
set_option maxHeartbeats 12800000
set_option linter.unusedVariables false
set_option linter.unusedSimpArgs false
namespace Go.Proofs.YtaccidkgnkmagaaGreatDoor.Top
open Go.RowKit
theorem qm{z:Int}(h0:0<=z)(h1:z<18446744073709551616):IntKind.u64.wrap z=z:=by
 simp only[IntKind.wrap,IntKind.bits,IntKind.signed];simp;omega
theorem ql{P:Program}{size n c b o:Nat}{l:List (Array Value)}{X:Nat->Prop}{W:World}(h:Sl size (.slice (some ⟨b,o,none⟩) n c) l X W){i j:Nat}{r:Array Value}{v:Value}(hr:l[i]? =some r)(h0:0<size)(hj:r[j]? =some v){T:TypeId}(hagg:(isAgg T).run P W= .ok false W):
  (loadVar T ⟨b,o+i*size+j,none⟩).run P W= .ok v W:=by
 obtain⟨b',o',e1,_,_,hrs,hc⟩:=h.row hr h0;injection e1 with e1;injection e1 with e2 e3;subst e2 e3;have:=hc j v hj;simp[loadVar,hagg,this]
theorem tsends_any(bk n s m:Nat)(x:Kn)(X0:Nat->Prop)(w:World)(h:KPre bk n s m x X0 w)(r:Array Value)(hr:r∈x.P)(N A B C:Int)(hc:qk N A B C):
  Calls Tryz.prog 150 #[.pointer (some ⟨bk,0,none⟩),.agg r,.agg #[.int .u32 N,.int .u32 A,.int .u32 B,.int .u32 C]] w (qX bk (n+1) s (m+1) x X0 w (Zw x (zX r))):=by
 have k:=zj h.begin;have OK:=Lib.hid h.ok;have HB:=Lib.hid h.blk;have hn:=h.hn;have hm:=h.hm;have HR:Hid (Ty yu r):=h.ok.P.ty r hr;have HM:=Lib.hid hr;have HI:=Lib.hid (xk hr);have HPar:=Lib.hid (h.ok.P.par r hr);have hs:=h.hs;have hrs:r.size=26:=HR.out.size;have hro:=HR.out.one;obtain⟨Ao,co,eO,hco,_⟩:=h.sl.Ou.len;obtain⟨As,cs,eS,hcs,hcsm⟩:=h.sl.Se.len;unfold maxLen at hcsm;have hX0:=h.lt;clear hr h;obtain⟨mm,emm,hmm⟩:=mem_at HR.out;have hA:=hc.2.1;have hwA:IntKind.u64.wrap A=A:=qm (by omega) (by omega);have hwO:IntKind.u64.wrap (x.Ou.length:Int)=x.Ou.length:=qm (by omega) (by have:=OK.out.Oul;omega);by_cases hbig:(x.Ou.length:Int)<=A
 ·go_enter Tryz.func150,Tryz.ntmps150
  go_upto_region 1 with((with_reducible refine zI ?_);refine bxa k rfl ?_;clear k;intro b X W k)
  have HPer:=Lib.hid k.out.per;refine zt k 11 11 (by kernel_rfl) rfl ?_;clear k;intro W k;refine zq [(0,some 10,[]),(1,some 11,[]),(2,some 12,[]),(3,some 13,[]),(4,some 14,[]),(5,some 15,[]),(6,some 16,[]),(7,some 17,[]),(8,some 18,[]),(9,some 19,[]),(10,some 20,[])] [?v22_0,?v22_1,?v22_2,?v22_3,?v22_4,?v22_5,?v22_6,?v22_7,?v22_8,?v22_9,?v22_10] 0 (by kernel_rfl) ⟨_,k.out⟩ ?l22 ?h22;case l22=>
   intro w' hSw;iterate 11
    refine lkw rfl rfl (by rfl) ?_ ?_
    ·first|((with_reducible refine yw ?_);first|exact hSw.l1 rfl rfl (by repeat constructor) (by rfl))|(go_simp<;>with_reducible rfl)
    try simp only[Act.put,tS,t0,t1]
   trivial
  simp only[zw,zk,Act.put,tS,t0,t1];refine zv (by kernel_rfl) ?_ _;clear HPer;go_wp2_with fail
  go_ret2
  exact xv k.out 2 rfl HB.out k.out.fact OK.out HI.out (by omega) (by omega)
 ·obtain⟨i,rfl,hi⟩: ∃i:Nat,A=(i:Int)/\i<x.Ou.length:=⟨A.toNat,by omega,by omega⟩
  have hol:=OK.out.Oul;have hwi:IntKind.i64.wrap (i:Int)=i:=xg (by omega) (by omega);have hiz:(i:Int)<x.Ou.length:=by omega
  have dbig:decide ((x.Ou.length:Int)<=i)=false:=decide_eq_false (by omega);clear hbig;obtain⟨row,hrow⟩: ∃row,x.Ou[i]? =some row:=⟨_,List.getElem?_eq_getElem hi⟩;obtain⟨q0,q1,q2,q3,q4,rfl⟩:=ZX (OK.out.Ou _ (List.mem_of_getElem? hrow)).1;have hsl:=k.out.fact.Ou;rw[eO] at hsl;obtain⟨bp,op,rfl,_⟩:=hsl.row hrow (by decide);clear hsl;go_enter Tryz.func150,Tryz.ntmps150
  go_upto_region 1 with((with_reducible refine zI ?_);refine bxa k rfl ?_;clear k;intro b X W k)
  have HPer:=Lib.hid k.out.per;refine zt k 11 11 (by kernel_rfl) rfl ?_;clear k;intro W k;refine zq [(0,some 10,[]),(1,some 11,[]),(2,some 12,[]),(3,some 13,[]),(4,some 14,[]),(5,some 15,[]),(6,some 16,[]),(7,some 17,[]),(8,some 18,[]),(9,some 19,[]),(10,some 20,[])] [?v23_0,?v23_1,?v23_2,?v23_3,?v23_4,?v23_5,?v23_6,?v23_7,?v23_8,?v23_9,?v23_10] 0 (by kernel_rfl) ⟨_,k.out⟩ ?l23 ?h23;case l23=>
   intro w' hSw;iterate 11
    refine lkw rfl rfl (by rfl) ?_ ?_
    ·first|((with_reducible refine yw ?_);first|exact hSw.l1 rfl rfl (by repeat constructor) (by rfl))|(go_simp<;>with_reducible rfl)
    try simp only[Act.put,tS,t0,t1]
   trivial
  simp only[zw,zk,Act.put,tS,t0,t1];refine zv (by kernel_rfl) ?_ _;clear HPer;go_wp2_with((with_reducible refine zz ?_);refine ld1 k rfl rfl (by repeat constructor) (by first|rfl|assumption) ?_);refine(out_any mm B C _ (by unfold maxLen;omega) hc.2.2.1.1 hc.2.2.1.2 hc.2.2.2.1 hc.2.2.2.2).mono ?_;rintro e W1 ⟨s0,y,rfl,hs0,-,hy,rfl⟩;rcases hy with rfl|rfl
  ·by_cases hlen:q3<(s0.size:Int)
   ·go_upto_region 6 with fail
    have HPer:=Lib.hid k.out.per;refine zt k 14 14 (by kernel_rfl) rfl ?_;clear k;intro W k;refine zq [(0,some 36,[]),(1,some 37,[]),(2,some 38,[]),(3,some 39,[]),(4,some 40,[]),(5,some 41,[]),(6,some 42,[]),(7,some 43,[]),(8,some 44,[]),(9,some 45,[]),(10,some 46,[]),(11,some 47,[]),(12,some 48,[]),(13,some 35,[])] [?v24_0,?v24_1,?v24_2,?v24_3,?v24_4,?v24_5,?v24_6,?v24_7,?v24_8,?v24_9,?v24_10,?v24_11,?v24_12,?v24_13] 0 (by kernel_rfl) ⟨_,k.out⟩ ?l24 ?h24;case l24=>
     intro w' hSw;iterate 11
      refine lkw rfl rfl (by rfl) ?_ ?_
      ·first|((with_reducible refine yw ?_);first|exact hSw.l1 rfl rfl (by repeat constructor) (by rfl))|(go_simp<;>with_reducible rfl)
      try simp only[Act.put,tS,t0,t1]
     refine lkw rfl rfl (by rfl) ?_ ?_
     ·refine yG rfl ?_
      obtain⟨X',hX'⟩:=hSw.get;have hs':=hX'.Ou;rw[eO] at hs';exact ql hs' hrow (by decide) (j:=3) rfl (Tryz.isAgg3 _)
     try simp only[Act.put,tS,t0,t1]
     iterate 2
      refine lkw rfl rfl (by rfl) ?_ ?_
      ·go_simp<;>with_reducible rfl
      try simp only[Act.put,tS,t0,t1]
     trivial
    simp only[zw,zk,Act.put,tS,t0,t1];refine zv (by kernel_rfl) ?_ _;clear HPer;go_wp2_with fail
    go_ret2
    exact xv k.out 2 rfl HB.out k.out.fact OK.out HI.out (by omega) (by omega)
   ·go_upto_region 6 with fail
    have HPer:=Lib.hid k.out.per;refine zt k 14 14 (by kernel_rfl) rfl ?_;clear k;intro W k;refine zq [(0,some 36,[]),(1,some 37,[]),(2,some 38,[]),(3,some 39,[]),(4,some 40,[]),(5,some 41,[]),(6,some 42,[]),(7,some 43,[]),(8,some 44,[]),(9,some 45,[]),(10,some 46,[]),(11,some 47,[]),(12,some 48,[]),(13,some 35,[])] [?v25_0,?v25_1,?v25_2,?v25_3,?v25_4,?v25_5,?v25_6,?v25_7,?v25_8,?v25_9,?v25_10,?v25_11,?v25_12,?v25_13] 0 (by kernel_rfl) ⟨_,k.out⟩ ?l25 ?h25;case l25=>
     intro w' hSw;iterate 11
      refine lkw rfl rfl (by rfl) ?_ ?_
      ·first|((with_reducible refine yw ?_);first|exact hSw.l1 rfl rfl (by repeat constructor) (by rfl))|(go_simp<;>with_reducible rfl)
      try simp only[Act.put,tS,t0,t1]
     refine lkw rfl rfl (by rfl) ?_ ?_
     ·refine yG rfl ?_
      obtain⟨X',hX'⟩:=hSw.get;have hs':=hX'.Ou;rw[eO] at hs';exact ql hs' hrow (by decide) (j:=3) rfl (Tryz.isAgg3 _)
     try simp only[Act.put,tS,t0,t1]
     iterate 2
      refine lkw rfl rfl (by rfl) ?_ ?_
      ·go_simp<;>with_reducible rfl
      try simp only[Act.put,tS,t0,t1]
     trivial
    simp only[zw,zk,Act.put,tS,t0,t1];refine zv (by kernel_rfl) ?_ _;clear HPer
    go_upto_region 8 with fail
    have HE:Hid (Ty kOut #[.int .i64 i,.string s0]):=⟨yY (by omega) (by omega),Zk (by omega),trivial⟩;have HPer:=Lib.hid k.out.per;refine zt k 17 18 (by kernel_rfl) rfl ?_;clear k;intro W k;refine zq [(0,some 49,[17]),(1,some 50,[17]),(2,some 51,[17]),(3,some 52,[17]),(4,some 53,[17]),(5,some 54,[17]),(7,some 56,[17]),(8,some 57,[17]),(9,some 58,[17]),(10,some 59,[17]),(11,some 60,[17])] [?v26_0,?v26_1,?v26_2,?v26_3,?v26_4,?v26_5,?v26_7,?v26_8,?v26_9,?v26_10,?v26_11] 7 (by kernel_rfl) ⟨_,k.out⟩ ?l26 ?h26;case l26=>
     intro w' hSw;iterate 11
      refine lkw rfl rfl (by rfl) ?_ ?_
      ·first|((with_reducible refine yw ?_);first|exact hSw.l1 rfl rfl (by repeat constructor) (by rfl))|(go_simp<;>with_reducible rfl)
      try simp only[Act.put,tS,t0,t1]
     trivial
    simp only[zw,zk,Act.put,tS,t0,t1];refine yI (i:=6) (j:=12) (fuel:=6) (by kernel_rfl) rfl rfl ?_ ?_
    ·go_wp2_with fail
     refine(clipOut_any As _ cs _ hcs).mono ?_;rintro e W1 ⟨rfl,rfl⟩;go_wp2_with fail;refine zd (yz ⟨_,k.out⟩) ?_;refine w1 12 5 (by kernel_rfl) rfl ?_;go_wp2_with((with_reducible refine qY ?_);refine qp k elOut rfl rfl rfl rfl rfl (by decide) (by decide) ?_;clear k;intro b X W k);have hkr:=k.out.blk (i:=0) rfl;replace k:=zj (k.out.drop (n:=1));refine zd (yz ⟨_,k.out⟩) ?_;refine w1 13 4 (by kernel_rfl) rfl ?_;have hfT:=k.out.fact.Se;simp only[eS] at hfT;go_wp2_with((with_reducible refine jZ ?_);refine jv elOut (by decide) rfl (.tmp 55) (.tmp 61) rfl _ x.Se [#[.int .i64 i,.string s0]] X (fun _=>False) rfl (sl_cap hfT (Nat.le_refl _) hcs) _ rfl (qU hkr rfl (Nat.le_refl 1) (by unfold maxLen;omega)) (by intro r hr;rw[List.mem_singleton.1 hr];exact zm rfl) (by simp) (by have:=OK.out.Sel;simp;omega) (by omega) ?_;intro v2 W2 hown2 hb2);have hv2:=xu hown2;have hf:=zV hown2 (xl (fun q hq=>(OK.out.Se q hq).size) rfl) k.out.lt;replace k:=zj (k.out.call hb2);clear hown2 hb2 hfT hkr;refine zd (yz ⟨_,k.out⟩) ?_;refine zq [(14,some 63,[15,16,17]),(15,some 64,[16,17]),(16,some 65,[17])] [?v27_14,?v27_15,?v27_16] 1 (by kernel_rfl) ⟨_,k.out⟩ ?l27 ?h27;case l27=>
      intro w' hSw;iterate 3
       refine lkw rfl rfl (by rfl) ?_ ?_
       ·go_simp<;>with_reducible rfl
       try simp only[Act.put,tS,t0,t1]
      trivial
     simp only[zw,zk,Act.put,tS,t0,t1];refine w1 17 0 (by kernel_rfl) rfl ?_;replace k:=zj (k.out.add hf (zb _ _ _));clear hf;go_wp2_with((with_reducible refine zx ?_);refine yE k (E:=KC {x with vSe:=v2,Se:=x.Se++ [#[.int .i64 i,.string s0]]}) (G':=KSl {x with vSe:=v2,Se:=x.Se++ [#[.int .i64 i,.string s0]]}) rfl rfl rfl hv2 .a2 (by rfl) (by rfl) (zO _) (fun X W h=>{h.1 with Se:=h.2}) ?_;clear k;intro W k);refine zd (zJ rfl) ?_;refine zv (by kernel_rfl) ?_ _;clear HPer;go_wp2_with fail;exact bodyPost_ret (xJ rfl rfl rfl) rfl (k.out.kpost 2 rfl HB.out k.out.fact {OK.out.mono (Nat.le_succ n) (Nat.le_refl _) (Nat.le_succ m) with Se:=xl OK.out.Se HE.out,Sel:=by have:=OK.out.Sel;simp;omega} ⟨rfl,rfl,rfl,rfl⟩ ⟨0,0,rfl,by omega,by omega,Liv.refl _,HI.out,rfl,rfl⟩)
    ·go_wp2_with((with_reducible refine qY ?_);refine qp k elOut rfl rfl rfl rfl rfl (by decide) (by decide) ?_;clear k;intro b X W k)
     have hkr:=k.out.blk (i:=0) rfl;replace k:=zj (k.out.drop (n:=1));refine zd (yz ⟨_,k.out⟩) ?_;refine w1 6 5 (by kernel_rfl) rfl ?_;go_wp2_with fail;refine(clipOut_any As _ cs _ hcs).mono ?_;rintro e W1 ⟨rfl,rfl⟩;go_wp2_with fail;refine zd (yz ⟨_,k.out⟩) ?_;refine w1 13 4 (by kernel_rfl) rfl ?_;have hfT:=k.out.fact.Se;simp only[eS] at hfT;go_wp2_with((with_reducible refine jZ ?_);refine jv elOut (by decide) rfl (.tmp 55) (.tmp 61) rfl _ x.Se [#[.int .i64 i,.string s0]] X (fun _=>False) rfl (sl_cap hfT (Nat.le_refl _) hcs) _ rfl (qU hkr rfl (Nat.le_refl 1) (by unfold maxLen;omega)) (by intro r hr;rw[List.mem_singleton.1 hr];exact zm rfl) (by simp) (by have:=OK.out.Sel;simp;omega) (by omega) ?_;intro v2 W2 hown2 hb2);have hv2:=xu hown2;have hf:=zV hown2 (xl (fun q hq=>(OK.out.Se q hq).size) rfl) k.out.lt;replace k:=zj (k.out.call hb2);clear hown2 hb2 hfT hkr;refine zd (yz ⟨_,k.out⟩) ?_;refine zq [(14,some 63,[15,16,17]),(15,some 64,[16,17]),(16,some 65,[17])] [?v28_14,?v28_15,?v28_16] 1 (by kernel_rfl) ⟨_,k.out⟩ ?l28 ?h28;case l28=>
      intro w' hSw;iterate 3
       refine lkw rfl rfl (by rfl) ?_ ?_
       ·go_simp<;>with_reducible rfl
       try simp only[Act.put,tS,t0,t1]
      trivial
     simp only[zw,zk,Act.put,tS,t0,t1];refine w1 17 0 (by kernel_rfl) rfl ?_;replace k:=zj (k.out.add hf (zb _ _ _));clear hf;go_wp2_with((with_reducible refine zx ?_);refine yE k (E:=KC {x with vSe:=v2,Se:=x.Se++ [#[.int .i64 i,.string s0]]}) (G':=KSl {x with vSe:=v2,Se:=x.Se++ [#[.int .i64 i,.string s0]]}) rfl rfl rfl hv2 .a2 (by rfl) (by rfl) (zO _) (fun X W h=>{h.1 with Se:=h.2}) ?_;clear k;intro W k);refine zd (zJ rfl) ?_;refine zv (by kernel_rfl) ?_ _;clear HPer;go_wp2_with fail;exact bodyPost_ret (xJ rfl rfl rfl) rfl (k.out.kpost 2 rfl HB.out k.out.fact {OK.out.mono (Nat.le_succ n) (Nat.le_refl _) (Nat.le_succ m) with Se:=xl OK.out.Se HE.out,Sel:=by have:=OK.out.Sel;simp;omega} ⟨rfl,rfl,rfl,rfl⟩ ⟨0,0,rfl,by omega,by omega,Liv.refl _,HI.out,rfl,rfl⟩)
  ·go_wp2_with fail
   go_ret2
   exact xv k.out 2 rfl HB.out k.out.fact OK.out HI.out (by omega) (by omega)
theorem gI{a b:Value}{x y:Int}(h: #[a,.int .i64 x]= #[b,.int .i64 y]):a=b/\x=y:=by
 injection h with h;injection h with h1 h2;injection h2 with h2 _;injection h2 with _ h2;exact⟨h1,h2⟩
theorem msg_fit{a:Int}{s:ByteArray}(h:Ty kMsg #[.int .u64 a,.string s]):(0<=a/\a<18446744073709551616)/\s.size<=64:=by
 obtain⟨⟨y,e1,h1⟩,⟨z,e2,h2⟩,_⟩:=h;cases e1;cases e2;exact⟨h1,h2⟩
theorem does_box{bk n s m:Nat}{x:Kn}{X0 X:Nat->Prop}{w W:World}{bs:List (Nat×Array Value×TypeId)}{g cap i:Nat}{C:Array Value}{vb v1:Value}{lb lP:List (Array Value)}{xb:Int}(k:St (fun k=>k=bk) X0 w ((g,patch C (i*2) #[vb,.int .i64 xb],72)::bs) (fun X W=>(KSl x X W/\Sl 2 vb lb X W)/\Sl 26 v1 lP X W) X W)(j:Nat)
  (hi:bs[j]? =some (bk,KC {x with vBx:= .slice (some ⟨g,0,none⟩) x.Bx.length cap,vP:=v1},116)) (hw:Blk w bk (KC x) 116) (hX: ∀b,X0 b->b<w.heap.size) (hg:w.heap.size<=g) (hok:KOk n s m x) (hrw:Rw 2 x.Bx.length cap C x.Bx) (hq:i<x.Bx.length) (hlb: ∀m∈lb,Ty kMsg m) (hlb8:lb.length<=8) (hx0: -9223372036854775808<=xb) (hx1:xb<=9223372036854775807)
  (hPO:POk n lP) (hLv:Liv x.P lP) {p:Int} (hr:p∈xh lP) {v y:Int} (h0:0<=v) (h1:v<4294967296):qX bk (n+1) s (m+1) x X0 w (Zw x p) (.returned (.tuple #[.int .u32 v,.int .i64 y])) W:=by
 have k2:=k.release (i:=0) rfl hg hX bs rfl;have hr2:=hrw.set hq (r:= #[vb,.int .i64 xb]) rfl;obtain⟨⟨hK,hB⟩,hP⟩:=k2.fact;have hbx: ∀r,r∈x.Bx.set i #[vb,.int .i64 xb]->BoxOk r (fun b=>X b/\b≠g) W:=by
  intro r hr;rcases List.mem_or_eq_of_mem_set hr with hr|rfl
  ·exact hK.bx r hr
  ·exact⟨vb,lb,xb,⟨rfl,hlb,hlb8,hx0,hx1⟩,hB⟩
 have hsl:KSl {x with vBx:= .slice (some ⟨g,0,none⟩) x.Bx.length cap,Bx:=x.Bx.set i #[vb,.int .i64 xb],vP:=v1,P:=lP} (fun b=>X b/\b≠g) W:={hK with Bx:=hr2.sl (k.blk (i:=0) rfl) (fun h=>h.2 rfl),P:=hP,bx:=hbx};exact k2.kpost (x':={x with vBx:= .slice (some ⟨g,0,none⟩) x.Bx.length cap,Bx:=x.Bx.set i #[vb,.int .i64 xb],vP:=v1,P:=lP}) j hi hw hsl {hok.mono (Nat.le_succ n) (Nat.le_refl _) (Nat.le_succ m) with P:=hPO.mono (Nat.le_succ n),Bxl:=by simp only[List.length_set];exact hok.Bxl} ⟨rfl,rfl,rfl,rfl⟩ ⟨v,y,rfl,h0,h1,hLv,hr,rfl,rfl⟩
theorem trecvs_any(bk n s m:Nat)(x:Kn)(X0:Nat->Prop)(w:World)(h:KPre bk n s m x X0 w)(r:Array Value)(hr:r∈x.P)(N A B C:Int)(hc:qk N A B C):
  Calls Tryz.prog 151 #[.pointer (some ⟨bk,0,none⟩),.agg r,.agg #[.int .u32 N,.int .u32 A,.int .u32 B,.int .u32 C]] w (qX bk (n+1) s (m+1) x X0 w (Zw x (zX r))):=by
 have k:=zj h.begin;have OK:=Lib.hid h.ok;have HB:=Lib.hid h.blk;have hn:=h.hn;have hm:=h.hm;have HR:Hid (Ty yu r):=h.ok.P.ty r hr;have HM:=Lib.hid hr;have HI:=Lib.hid (xk hr);have HPar:=Lib.hid (h.ok.P.par r hr);have hs:=h.hs;have hrs:r.size=26:=HR.out.size;have hro:=HR.out.one;obtain⟨Ai,ci,eI,hci,_⟩:=h.sl.Is.len;obtain⟨Ab,cb,eB,hcb,_⟩:=h.sl.Bx.len;have hX0:=h.lt;have hbo:=h.sl.bx;clear hr h;obtain⟨mm,emm,hmm⟩:=mem_at HR.out;have hA:=hc.2.1;have hIl:=OK.out.Isl;have hBl:=OK.out.Bxl;have hwA:IntKind.u64.wrap A=A:=qm (by omega) (by omega);have hwC:IntKind.u64.wrap C=C:=qm (by have:=hc.2.2.2.1;omega) (by have:=hc.2.2.2.2;omega);have hwI:IntKind.u64.wrap (x.Is.length:Int)=x.Is.length:=qm (by omega) (by omega);have hwB:IntKind.u64.wrap (x.Bx.length:Int)=x.Bx.length:=qm (by omega) (by omega);by_cases hbig:(x.Is.length:Int)<=A
 ·clear hBl
  go_enter Tryz.func151,Tryz.ntmps151
  go_upto_region 1 with(first|((with_reducible refine zp ?_);first|go_big_skip|refine zg rfl rfl rfl (by with_reducible rfl) ?_)|((with_reducible refine zz ?_);first|(refine ld1 k rfl rfl (by repeat constructor) (by first|with_reducible assumption|rfl) ?_)|(refine lda k rfl rfl (by repeat constructor) (by first|with_reducible assumption|rfl) ?_)|(refine ldp k rfl rfl (by repeat constructor) (D:= #[_,_]) (by rfl) (by rfl) ?_)|(refine ldp k rfl rfl (by repeat constructor) (D:= #[_,_,_,_,_]) (by rfl) (by rfl) ?_))|((with_reducible refine zx ?_);first|(refine so1 k rfl rfl rfl (by first|with_reducible assumption|rfl) (by repeat constructor) (by first|with_reducible assumption|rfl) rfl ?_;clear k;intro W k)|(refine soa k rfl rfl rfl (by repeat constructor) (by first|with_reducible assumption|rfl) (by first|with_reducible assumption|rfl) (by first|exact zm rfl|assumption) ?_;clear k;intro W k)|(refine sop k rfl rfl rfl (by repeat constructor) (by first|with_reducible assumption|rfl) (by first|with_reducible assumption|rfl) (by first|exact zm rfl|assumption) rfl ?_;clear k;intro W k))|((with_reducible refine zI ?_);first|(refine bxa k (T:=130) rfl ?_;clear k;intro c130 X W k)|(refine bxa k (T:=132) rfl ?_;clear k;intro c132 X W k))|((with_reducible refine zf ?_);first|(refine ala k Tryz.zeroValue72 ?_;clear k;intro b72 X W k)|(refine ala k Tryz.zeroValue243 ?_;clear k;intro b243 X W k)))
  have HPer:=Lib.hid k.out.per;refine zt k 24 24 (by kernel_rfl) rfl ?_;clear k;intro W k;refine zq [(0,some 12,[]),(1,some 13,[]),(2,some 14,[]),(3,some 15,[]),(4,some 16,[]),(5,some 17,[]),(6,some 18,[]),(7,some 19,[]),(8,some 20,[]),(9,some 21,[]),(10,some 22,[]),(11,some 23,[]),(12,some 24,[]),(13,some 25,[]),(14,some 26,[]),(15,some 27,[]),(16,some 28,[]),(17,some 29,[]),(18,some 30,[]),(19,some 31,[]),(20,some 32,[]),(21,some 33,[]),(22,some 34,[]),(23,some 35,[])] [?v13_0,?v13_1,?v13_2,?v13_3,?v13_4,?v13_5,?v13_6,?v13_7,?v13_8,?v13_9,?v13_10,?v13_11,undef,undef,undef,undef,undef,undef,undef,undef,undef,undef,undef,?v13_23] 0 (by kernel_rfl) ⟨_,k.out⟩ ?l13 ?h13;case l13=>
   intro w' hSw;iterate 12
    refine lkw rfl rfl (by rfl) ?_ ?_
    ·first|((with_reducible refine yw ?_);first|exact hSw.l1 rfl rfl (by repeat constructor) (by rfl))|(go_simp<;>with_reducible rfl)
    try simp only[Act.put,tS,t0,t1]
   iterate 11
    refine lks rfl rfl (by rfl) ?_;try simp only[Act.put,tS,t0,t1]
   refine lkw rfl rfl (by rfl) ?_ ?_
   ·go_simp<;>with_reducible rfl
   try simp only[Act.put,tS,t0,t1]
   trivial
  simp only[zw,zk,Act.put,tS,t0,t1];refine zv (by kernel_rfl) ?_ _;clear HPer;go_wp2_with(first|((with_reducible refine zp ?_);first|go_big_skip|refine zg rfl rfl rfl (by with_reducible rfl) ?_)|((with_reducible refine zz ?_);first|(refine ld1 k rfl rfl (by repeat constructor) (by first|with_reducible assumption|rfl) ?_)|(refine lda k rfl rfl (by repeat constructor) (by first|with_reducible assumption|rfl) ?_)|(refine ldp k rfl rfl (by repeat constructor) (D:= #[_,_]) (by rfl) (by rfl) ?_)|(refine ldp k rfl rfl (by repeat constructor) (D:= #[_,_,_,_,_]) (by rfl) (by rfl) ?_))|((with_reducible refine zx ?_);first|(refine so1 k rfl rfl rfl (by first|with_reducible assumption|rfl) (by repeat constructor) (by first|with_reducible assumption|rfl) rfl ?_;clear k;intro W k)|(refine soa k rfl rfl rfl (by repeat constructor) (by first|with_reducible assumption|rfl) (by first|with_reducible assumption|rfl) (by first|exact zm rfl|assumption) ?_;clear k;intro W k)|(refine sop k rfl rfl rfl (by repeat constructor) (by first|with_reducible assumption|rfl) (by first|with_reducible assumption|rfl) (by first|exact zm rfl|assumption) rfl ?_;clear k;intro W k))|((with_reducible refine zI ?_);first|(refine bxa k (T:=130) rfl ?_;clear k;intro c130 X W k)|(refine bxa k (T:=132) rfl ?_;clear k;intro c132 X W k))|((with_reducible refine zf ?_);first|(refine ala k Tryz.zeroValue72 ?_;clear k;intro b72 X W k)|(refine ala k Tryz.zeroValue243 ?_;clear k;intro b243 X W k)))
  go_ret2
  exact xv k.out 2 rfl HB.out k.out.fact OK.out HI.out (by omega) (by omega)
 ·obtain⟨i,rfl,hi⟩: ∃i:Nat,A=(i:Int)/\i<x.Is.length:=⟨A.toNat,by omega,by omega⟩
  have hiB:i<x.Bx.length:=by omega
  have hwi:IntKind.i64.wrap (i:Int)=i:=xg (by omega) (by omega);have hiz:(i:Int)<x.Is.length:=by omega
  have hiz2:(i:Int)<x.Bx.length:=by omega
  have nbig: ¬((x.Is.length:Int)<=i):=by omega
  have nbig2: ¬((x.Bx.length:Int)<=i):=by omega
  have hB6:x.Bx.length<=6:=by omega
  clear hbig hBl;obtain⟨row,hrow⟩: ∃row,x.Is[i]? =some row:=⟨_,List.getElem?_eq_getElem hi⟩;have hch:=(OK.out.Is _ (List.mem_of_getElem? hrow)).1;have hsl:=k.out.fact.Is;rw[eI] at hsl;obtain⟨bp,op,rfl,_⟩:=hsl.row hrow (by decide);clear hsl;obtain⟨box,hbox⟩: ∃box,x.Bx[i]? =some box:=⟨_,List.getElem?_eq_getElem hiB⟩;have hsl:=k.out.fact.Bx;rw[eB] at hsl;obtain⟨bq,oq,rfl,_⟩:=hsl.row hbox (by decide);clear hsl;obtain⟨vb,_,xb,⟨rfl,_,_,_,_⟩,_⟩:=hbo _ (List.mem_of_getElem? hbox);have hbone:Hid (∀q∈x.Bx,yZ q):=fun q hq=>by
   obtain⟨v',l',y',⟨rfl,_⟩,hs'⟩:=hbo q hq;exact yU hs'.one rfl
  have hbsz:Hid (∀q∈x.Bx,q.size=2):=fun q hq=>by
   obtain⟨v',l',y',⟨rfl,_⟩,hs'⟩:=hbo q hq;rfl
  clear hbo;go_enter Tryz.func151,Tryz.ntmps151
  go_upto_region 1 with(first|((with_reducible refine zp ?_);first|go_big_skip|refine zg rfl rfl rfl (by with_reducible rfl) ?_)|((with_reducible refine zz ?_);first|(refine ld1 k rfl rfl (by repeat constructor) (by first|with_reducible assumption|rfl) ?_)|(refine lda k rfl rfl (by repeat constructor) (by first|with_reducible assumption|rfl) ?_)|(refine ldp k rfl rfl (by repeat constructor) (D:= #[_,_]) (by rfl) (by rfl) ?_)|(refine ldp k rfl rfl (by repeat constructor) (D:= #[_,_,_,_,_]) (by rfl) (by rfl) ?_))|((with_reducible refine zx ?_);first|(refine so1 k rfl rfl rfl (by first|with_reducible assumption|rfl) (by repeat constructor) (by first|with_reducible assumption|rfl) rfl ?_;clear k;intro W k)|(refine soa k rfl rfl rfl (by repeat constructor) (by first|with_reducible assumption|rfl) (by first|with_reducible assumption|rfl) (by first|exact zm rfl|assumption) ?_;clear k;intro W k)|(refine sop k rfl rfl rfl (by repeat constructor) (by first|with_reducible assumption|rfl) (by first|with_reducible assumption|rfl) (by first|exact zm rfl|assumption) rfl ?_;clear k;intro W k))|((with_reducible refine zI ?_);first|(refine bxa k (T:=130) rfl ?_;clear k;intro c130 X W k)|(refine bxa k (T:=132) rfl ?_;clear k;intro c132 X W k))|((with_reducible refine zf ?_);first|(refine ala k Tryz.zeroValue72 ?_;clear k;intro b72 X W k)|(refine ala k Tryz.zeroValue243 ?_;clear k;intro b243 X W k)))
  have HPer:=Lib.hid k.out.per;refine zt k 24 24 (by kernel_rfl) rfl ?_;clear k;intro W k;refine zq [(0,some 12,[]),(1,some 13,[]),(2,some 14,[]),(3,some 15,[]),(4,some 16,[]),(5,some 17,[]),(6,some 18,[]),(7,some 19,[]),(8,some 20,[]),(9,some 21,[]),(10,some 22,[]),(11,some 23,[]),(12,some 24,[]),(13,some 25,[]),(14,some 26,[]),(15,some 27,[]),(16,some 28,[]),(17,some 29,[]),(18,some 30,[]),(19,some 31,[]),(20,some 32,[]),(21,some 33,[]),(22,some 34,[]),(23,some 35,[])] [?v14_0,?v14_1,?v14_2,?v14_3,?v14_4,?v14_5,?v14_6,?v14_7,?v14_8,?v14_9,?v14_10,?v14_11,?v14_12,?v14_13,?v14_14,?v14_15,?v14_16,?v14_17,?v14_18,?v14_19,?v14_20,?v14_21,?v14_22,?v14_23] 0 (by kernel_rfl) ⟨_,k.out⟩ ?l14 ?h14;case l14=>
   intro w' hSw;iterate 24
    refine lkw rfl rfl (by rfl) ?_ ?_
    ·first|((with_reducible refine yw ?_);first|exact hSw.l1 rfl rfl (by repeat constructor) (by rfl))|(go_simp<;>with_reducible rfl)
    try simp only[Act.put,tS,t0,t1]
   trivial
  simp only[zw,zk,Act.put,tS,t0,t1];refine zv (by kernel_rfl) ?_ _;clear HPer
  go_upto_region 3 with(first|((with_reducible refine zp ?_);first|go_big_skip|refine zg rfl rfl rfl (by with_reducible rfl) ?_)|((with_reducible refine zz ?_);first|(refine ld1 k rfl rfl (by repeat constructor) (by first|with_reducible assumption|rfl) ?_)|(refine lda k rfl rfl (by repeat constructor) (by first|with_reducible assumption|rfl) ?_)|(refine ldp k rfl rfl (by repeat constructor) (D:= #[_,_]) (by rfl) (by rfl) ?_)|(refine ldp k rfl rfl (by repeat constructor) (D:= #[_,_,_,_,_]) (by rfl) (by rfl) ?_))|((with_reducible refine zx ?_);first|(refine so1 k rfl rfl rfl (by first|with_reducible assumption|rfl) (by repeat constructor) (by first|with_reducible assumption|rfl) rfl ?_;clear k;intro W k)|(refine soa k rfl rfl rfl (by repeat constructor) (by first|with_reducible assumption|rfl) (by first|with_reducible assumption|rfl) (by first|exact zm rfl|assumption) ?_;clear k;intro W k)|(refine sop k rfl rfl rfl (by repeat constructor) (by first|with_reducible assumption|rfl) (by first|with_reducible assumption|rfl) (by first|exact zm rfl|assumption) rfl ?_;clear k;intro W k))|((with_reducible refine zI ?_);first|(refine bxa k (T:=130) rfl ?_;clear k;intro c130 X W k)|(refine bxa k (T:=132) rfl ?_;clear k;intro c132 X W k))|((with_reducible refine zf ?_);first|(refine ala k Tryz.zeroValue72 ?_;clear k;intro b72 X W k)|(refine ala k Tryz.zeroValue243 ?_;clear k;intro b243 X W k)))
  try simp only[Act.put,List.setIfInBounds_toArray,List.set_cons_zero,List.set_cons_succ,eI,eB]
  go_cut [8,9,10] from 36 to 58 (fun s8 s9 s10 wx=> ∃(b8 b9:Nat) (vt:Value) (lt:List (Array Value)) (xt ma:Int) (ms:ByteArray) (y:Int) (X:Nat->Prop),s8= .pointer (some ⟨b8,0,none⟩)/\s9= .pointer (some ⟨b9,0,none⟩)/\s10= .int .i64 y/\(∀m∈lt,Ty kMsg m)/\lt.length<=8/\ -9223372036854775808<=xt/\xt<=9223372036854775807/\Ty kMsg #[.int .u64 ma,.string ms]/\(y=0\/y=7)/\vt.oneCell'=true/\Hid (St (fun k=>k=bk) X0 w [(b9,#[.int .u64 ma,.string ms],243),(b8,#[vt,.int .i64 xt],72),(c130,#[.int .u32 N,.int .u32 i,.int .u32 B,.int .u32 C],130),(c132,r,132),(bk,KC x,116)] (fun X W=>KSl x X W/\Sl 2 vt lt X W) X wx))
  case first=>
   have HPer:=Lib.hid k.out.per;refine zt k 25 28 (by kernel_rfl) rfl ?_;clear k;intro W k;refine zq [(0,some 37,[25]),(1,some 38,[25]),(2,some 39,[25]),(3,some 40,[25]),(4,some 41,[25]),(5,some 42,[25]),(6,some 43,[25]),(7,some 44,[25]),(8,some 45,[25]),(9,some 46,[25]),(10,some 47,[25]),(11,some 48,[25]),(12,some 49,[25]),(13,some 50,[25]),(14,some 51,[25]),(15,some 52,[25]),(16,some 53,[25]),(17,some 54,[25])] [?v15_0,?v15_1,?v15_2,?v15_3,?v15_4,?v15_5,?v15_6,?v15_7,?v15_8,?v15_9,?v15_10,?v15_11,?v15_12,?v15_13,?v15_14,?v15_15,?v15_16,?v15_17] 10 (by kernel_rfl) ⟨_,k.out⟩ ?l15 ?h15;case l15=>
    intro w' hSw;iterate 8
     refine lkw rfl rfl (by rfl) ?_ ?_
     ·first|((with_reducible refine yw ?_);first|exact hSw.l1 rfl rfl (by repeat constructor) (by rfl))|(go_simp<;>with_reducible rfl)
     try simp only[Act.put,tS,t0,t1]
    refine lkw rfl rfl (by rfl) ?_ ?_
    ·refine yG rfl ?_
     obtain⟨X',hX'⟩:=hSw.get;have hs':=hX'.Is;rw[eI] at hs';exact jJ hs' hrow (by decide) (Tryz.isAgg87 _) (Tryz.sizeOf87 _)
    try simp only[Act.put,tS,t0,t1]
    iterate 8
     refine lkw rfl rfl (by rfl) ?_ ?_
     ·first|((with_reducible refine yw ?_);first|exact hSw.l1 rfl rfl (by repeat constructor) (by rfl))|(go_simp<;>with_reducible rfl)
     try simp only[Act.put,tS,t0,t1]
    refine lkw rfl rfl (by rfl) ?_ ?_
    ·refine yG rfl ?_
     obtain⟨X',hX'⟩:=hSw.get;have hs':=hX'.Bx;rw[eB] at hs';exact jJ hs' hbox (by decide) (Tryz.isAgg72 _) (Tryz.sizeOf72 _)
    try simp only[Act.put,tS,t0,t1]
    trivial
   simp only[zw,zk,Act.put,tS,t0,t1];refine wpAnyS_three (i:=18) (j:=23) (k:=24) (fuel:=9) (by kernel_rfl) rfl rfl rfl ?_ ?_ ?_
   ·go_wp2_with fail
    obtain⟨vb1,lb,xb1,⟨ebx,hlb,hlb8,hxb0,hxb1⟩,hbx⟩:=k.out.fact.bx _ (List.mem_of_getElem? hbox);obtain⟨rfl,rfl⟩:=gI ebx;refine(Zm _ vb lb xb _ _ hch hbx hlb (by omega) k.out.lt hxb0 hxb1).mono ?_;clear hbx;rintro e W1 ⟨vt,lt,xt,mt,y,rfl,hlt,hlt2,hlt3,hxt0,hxt1,hmt,hy,hb⟩;have hvt:=hlt.one;replace k:=zj ((k.out.call hb).add hlt (zb _ _ _));clear hb hlt;obtain⟨ma,ms,rfl⟩:=msg_lit hmt;go_wp2_with fail;refine zd (yz ⟨_,(k.out).turn (fun h=>h.1) (zO _)⟩) ?_;refine zq [(19,some 36,[25]),(20,some 56,[25])] [?v16_19,?v16_20] 7 (by kernel_rfl) ⟨_,(k.out).turn (fun h=>h.1) (zO _)⟩ ?l16 ?h16;case l16=>
     intro w' hSw;iterate 2
      refine lkw rfl rfl (by rfl) ?_ ?_
      ·go_simp<;>with_reducible rfl
      try simp only[Act.put,tS,t0,t1]
     trivial
    simp only[zw,zk,Act.put,tS,t0,t1];refine zU [(21,some 57,[]),(22,some 58,[])] [?v17_21,?v17_22] 5 (by kernel_rfl) (.inl ⟨_,(k.out).turn (fun h=>h.1) (zO _)⟩) ?l17 ?h17;case l17=>
     intro w';iterate 2
      refine lkw rfl rfl (by rfl) ?_ ?_
      ·go_simp<;>with_reducible rfl
      try simp only[Act.put,tS,t0,t1]
     trivial
    simp only[zw,zk,Act.put,tS,t0,t1];refine yI (i:=23) (j:=24) (fuel:=4) (by kernel_rfl) rfl rfl ?_ ?_
    ·go_wp2_with((with_reducible refine zf ?_);refine zG k rfl (T:=72) rfl (Tryz.zeroValue72 _) ?_;clear k;intro b8 X W k)
     refine zd (yz ⟨_,(k.out.drop (n:=1)).turn (fun h=>h.1) (zO _)⟩) ?_;refine w1 24 3 (by kernel_rfl) rfl ?_;go_wp2_with((with_reducible refine zf ?_);refine zG k rfl (T:=243) rfl (Tryz.zeroValue243 _) ?_;clear k;intro b9 X W k);refine zd (yz ⟨_,(k.out.drop (n:=2)).turn (fun h=>h.1) (zO _)⟩) ?_;refine w1 25 2 (by kernel_rfl) rfl ?_;go_wp2_with((with_reducible refine zx ?_);refine yl k 1 rfl (T:=72) rfl rfl rfl rfl (Tryz.sizeOf72 _) rfl rfl (yU hvt rfl) ?_;clear k;intro W k);refine zd (zJ rfl) ?_;refine w1 26 1 (by kernel_rfl) rfl ?_;go_wp2_with((with_reducible refine zx ?_);refine yl k 0 rfl (T:=243) rfl rfl rfl rfl (Tryz.sizeOf243 _) rfl rfl (zm rfl) ?_;clear k;intro W k);refine zd (qb (by kernel_rfl)) ?_;refine zU [(27,some 10,[])] [?v18_27] 0 (by kernel_rfl) (.inr (by kernel_rfl)) ?l18 ?h18;case l18=>
      intro w';refine lkw rfl rfl (by rfl) ?_ ?_
      ·go_simp<;>with_reducible rfl
      try simp only[Act.put,tS,t0,t1]
      trivial
     simp only[zw,zk,Act.put,tS,t0,t1];refine zv (by kernel_rfl) ?_ _;clear HPer;replace k:Hid (St _ _ _ [(b9,#[.int .u64 ma,.string ms],243),(b8,#[vt,.int .i64 xt],72),(_,_,_),(_,_,_),(_,_,_)] _ _ _):=k;go_wp2_with fail
     go_meet
     exact⟨b8,b9,vt,lt,xt,ma,ms,y,_,rfl,rfl,rfl,hlt2,(by omega),hxt0,hxt1,hmt,hy,hvt,k⟩
    ·go_wp2_with((with_reducible refine zf ?_);refine zG k rfl (T:=243) rfl (Tryz.zeroValue243 _) ?_;clear k;intro b9 X W k)
     refine zd (yz ⟨_,(k.out.drop (n:=1)).turn (fun h=>h.1) (zO _)⟩) ?_;refine w1 23 3 (by kernel_rfl) rfl ?_;go_wp2_with((with_reducible refine zf ?_);refine zG k rfl (T:=72) rfl (Tryz.zeroValue72 _) ?_;clear k;intro b8 X W k);refine zd (yz ⟨_,(k.out.drop (n:=2)).turn (fun h=>h.1) (zO _)⟩) ?_;refine w1 25 2 (by kernel_rfl) rfl ?_;go_wp2_with((with_reducible refine zx ?_);refine yl k 0 rfl (T:=72) rfl rfl rfl rfl (Tryz.sizeOf72 _) rfl rfl (yU hvt rfl) ?_;clear k;intro W k);refine zd (zJ rfl) ?_;refine w1 26 1 (by kernel_rfl) rfl ?_;go_wp2_with((with_reducible refine zx ?_);refine yl k 1 rfl (T:=243) rfl rfl rfl rfl (Tryz.sizeOf243 _) rfl rfl (zm rfl) ?_;clear k;intro W k);refine zd (qb (by kernel_rfl)) ?_;refine zU [(27,some 10,[])] [?v19_27] 0 (by kernel_rfl) (.inr (by kernel_rfl)) ?l19 ?h19;case l19=>
      intro w';refine lkw rfl rfl (by rfl) ?_ ?_
      ·go_simp<;>with_reducible rfl
      try simp only[Act.put,tS,t0,t1]
      trivial
     simp only[zw,zk,Act.put,tS,t0,t1];refine zv (by kernel_rfl) ?_ _;clear HPer;replace k:Hid (St _ _ _ [(_,_,_),(_,_,_),(_,_,_),(_,_,_),(_,_,_)] _ _ _):=k;replace k:=zj k.out.swap;replace k:Hid (St _ _ _ [(b9,#[.int .u64 ma,.string ms],243),(b8,#[vt,.int .i64 xt],72),(_,_,_),(_,_,_),(_,_,_)] _ _ _):=k;go_wp2_with fail
     go_meet
     exact⟨b8,b9,vt,lt,xt,ma,ms,y,_,rfl,rfl,rfl,hlt2,(by omega),hxt0,hxt1,hmt,hy,hvt,k⟩
   ·go_wp2_with((with_reducible refine zf ?_);refine zG k rfl (T:=72) rfl (Tryz.zeroValue72 _) ?_;clear k;intro b8 X W k)
    refine zd (yz ⟨_,k.out.drop (n:=1)⟩) ?_;refine yI (i:=18) (j:=24) (fuel:=8) (by kernel_rfl) rfl rfl ?_ ?_
    ·go_wp2_with fail
     obtain⟨vb1,lb,xb1,⟨ebx,hlb,hlb8,hxb0,hxb1⟩,hbx⟩:=k.out.fact.bx _ (List.mem_of_getElem? hbox);obtain⟨rfl,rfl⟩:=gI ebx;refine(Zm _ vb lb xb _ _ hch hbx hlb (by omega) k.out.lt hxb0 hxb1).mono ?_;clear hbx;rintro e W1 ⟨vt,lt,xt,mt,y,rfl,hlt,hlt2,hlt3,hxt0,hxt1,hmt,hy,hb⟩;have hvt:=hlt.one;replace k:=zj ((k.out.call hb).add hlt (zb _ _ _));clear hb hlt;obtain⟨ma,ms,rfl⟩:=msg_lit hmt;go_wp2_with fail;refine zd (yz ⟨_,(k.out.drop (n:=1)).turn (fun h=>h.1) (zO _)⟩) ?_;refine zq [(19,some 36,[25]),(20,some 56,[25])] [?v20_19,?v20_20] 6 (by kernel_rfl) ⟨_,(k.out.drop (n:=1)).turn (fun h=>h.1) (zO _)⟩ ?l20 ?h20;case l20=>
      intro w' hSw;iterate 2
       refine lkw rfl rfl (by rfl) ?_ ?_
       ·go_simp<;>with_reducible rfl
       try simp only[Act.put,tS,t0,t1]
      trivial
     simp only[zw,zk,Act.put,tS,t0,t1];refine zU [(21,some 57,[]),(22,some 58,[])] [?v21_21,?v21_22] 4 (by kernel_rfl) (.inl ⟨_,(k.out.drop (n:=1)).turn (fun h=>h.1) (zO _)⟩) ?l21 ?h21;case l21=>
      intro w';iterate 2
       refine lkw rfl rfl (by rfl) ?_ ?_
       ·go_simp<;>with_reducible rfl
       try simp only[Act.put,tS,t0,t1]
      trivial
     simp only[zw,zk,Act.put,tS,t0,t1];refine w1 24 3 (by kernel_rfl) rfl ?_;go_wp2_with((with_reducible refine zf ?_);refine zG k rfl (T:=243) rfl (Tryz.zeroValue243 _) ?_;clear k;intro b9 X W k);refine zd (yz ⟨_,(k.out.drop (n:=2)).turn (fun h=>h.1) (zO _)⟩) ?_;refine w1 25 2 (by kernel_rfl) rfl ?_;go_wp2_with((with_reducible refine zx ?_);refine yl k 1 rfl (T:=72) rfl rfl rfl rfl (Tryz.sizeOf72 _) rfl rfl (yU hvt rfl) ?_;clear k;intro W k);refine zd (zJ rfl) ?_;refine w1 26 1 (by kernel_rfl) rfl ?_;go_wp2_with((with_reducible refine zx ?_);refine yl k 0 rfl (T:=243) rfl rfl rfl rfl (Tryz.sizeOf243 _) rfl rfl (zm rfl) ?_;clear k;intro W k);refine zd (qb (by kernel_rfl)) ?_;refine zU [(27,some 10,[])] [?v22_27] 0 (by kernel_rfl) (.inr (by kernel_rfl)) ?l22 ?h22;case l22=>
      intro w';refine lkw rfl rfl (by rfl) ?_ ?_
      ·go_simp<;>with_reducible rfl
      try simp only[Act.put,tS,t0,t1]
      trivial
     simp only[zw,zk,Act.put,tS,t0,t1];refine zv (by kernel_rfl) ?_ _;clear HPer;replace k:Hid (St _ _ _ [(b9,#[.int .u64 ma,.string ms],243),(b8,#[vt,.int .i64 xt],72),(_,_,_),(_,_,_),(_,_,_)] _ _ _):=k;go_wp2_with fail
     go_meet
     exact⟨b8,b9,vt,lt,xt,ma,ms,y,_,rfl,rfl,rfl,hlt2,(by omega),hxt0,hxt1,hmt,hy,hvt,k⟩
    ·go_wp2_with((with_reducible refine zf ?_);refine zG k rfl (T:=243) rfl (Tryz.zeroValue243 _) ?_;clear k;intro b9 X W k)
     refine zd (yz ⟨_,k.out.drop (n:=2)⟩) ?_;refine w1 18 7 (by kernel_rfl) rfl ?_;go_wp2_with fail;obtain⟨vb1,lb,xb1,⟨ebx,hlb,hlb8,hxb0,hxb1⟩,hbx⟩:=k.out.fact.bx _ (List.mem_of_getElem? hbox);obtain⟨rfl,rfl⟩:=gI ebx;refine(Zm _ vb lb xb _ _ hch hbx hlb (by omega) k.out.lt hxb0 hxb1).mono ?_;clear hbx;rintro e W1 ⟨vt,lt,xt,mt,y,rfl,hlt,hlt2,hlt3,hxt0,hxt1,hmt,hy,hb⟩;have hvt:=hlt.one;replace k:=zj ((k.out.call hb).add hlt (zb _ _ _));clear hb hlt;obtain⟨ma,ms,rfl⟩:=msg_lit hmt;go_wp2_with fail;refine zd (yz ⟨_,(k.out.drop (n:=2)).turn (fun h=>h.1) (zO _)⟩) ?_;refine zq [(19,some 36,[25]),(20,some 56,[25])] [?v23_19,?v23_20] 5 (by kernel_rfl) ⟨_,(k.out.drop (n:=2)).turn (fun h=>h.1) (zO _)⟩ ?l23 ?h23;case l23=>
      intro w' hSw;iterate 2
       refine lkw rfl rfl (by rfl) ?_ ?_
       ·go_simp<;>with_reducible rfl
       try simp only[Act.put,tS,t0,t1]
      trivial
     simp only[zw,zk,Act.put,tS,t0,t1];refine zU [(21,some 57,[]),(22,some 58,[])] [?v24_21,?v24_22] 3 (by kernel_rfl) (.inl ⟨_,(k.out.drop (n:=2)).turn (fun h=>h.1) (zO _)⟩) ?l24 ?h24;case l24=>
      intro w';iterate 2
       refine lkw rfl rfl (by rfl) ?_ ?_
       ·go_simp<;>with_reducible rfl
       try simp only[Act.put,tS,t0,t1]
      trivial
     simp only[zw,zk,Act.put,tS,t0,t1];refine w1 25 2 (by kernel_rfl) rfl ?_;go_wp2_with((with_reducible refine zx ?_);refine yl k 1 rfl (T:=72) rfl rfl rfl rfl (Tryz.sizeOf72 _) rfl rfl (yU hvt rfl) ?_;clear k;intro W k);refine zd (zJ rfl) ?_;refine w1 26 1 (by kernel_rfl) rfl ?_;go_wp2_with((with_reducible refine zx ?_);refine yl k 0 rfl (T:=243) rfl rfl rfl rfl (Tryz.sizeOf243 _) rfl rfl (zm rfl) ?_;clear k;intro W k);refine zd (qb (by kernel_rfl)) ?_;refine zU [(27,some 10,[])] [?v25_27] 0 (by kernel_rfl) (.inr (by kernel_rfl)) ?l25 ?h25;case l25=>
      intro w';refine lkw rfl rfl (by rfl) ?_ ?_
      ·go_simp<;>with_reducible rfl
      try simp only[Act.put,tS,t0,t1]
      trivial
     simp only[zw,zk,Act.put,tS,t0,t1];refine zv (by kernel_rfl) ?_ _;clear HPer;replace k:Hid (St _ _ _ [(b9,#[.int .u64 ma,.string ms],243),(b8,#[vt,.int .i64 xt],72),(_,_,_),(_,_,_),(_,_,_)] _ _ _):=k;go_wp2_with fail
     go_meet
     exact⟨b8,b9,vt,lt,xt,ma,ms,y,_,rfl,rfl,rfl,hlt2,(by omega),hxt0,hxt1,hmt,hy,hvt,k⟩
   ·go_wp2_with((with_reducible refine zf ?_);refine zG k rfl (T:=243) rfl (Tryz.zeroValue243 _) ?_;clear k;intro b9 X W k)
    refine zd (yz ⟨_,k.out.drop (n:=1)⟩) ?_;refine yI (i:=18) (j:=23) (fuel:=8) (by kernel_rfl) rfl rfl ?_ ?_
    ·go_wp2_with fail
     obtain⟨vb1,lb,xb1,⟨ebx,hlb,hlb8,hxb0,hxb1⟩,hbx⟩:=k.out.fact.bx _ (List.mem_of_getElem? hbox);obtain⟨rfl,rfl⟩:=gI ebx;refine(Zm _ vb lb xb _ _ hch hbx hlb (by omega) k.out.lt hxb0 hxb1).mono ?_;clear hbx;rintro e W1 ⟨vt,lt,xt,mt,y,rfl,hlt,hlt2,hlt3,hxt0,hxt1,hmt,hy,hb⟩;have hvt:=hlt.one;replace k:=zj ((k.out.call hb).add hlt (zb _ _ _));clear hb hlt;obtain⟨ma,ms,rfl⟩:=msg_lit hmt;go_wp2_with fail;refine zd (yz ⟨_,(k.out.drop (n:=1)).turn (fun h=>h.1) (zO _)⟩) ?_;refine zq [(19,some 36,[25]),(20,some 56,[25])] [?v26_19,?v26_20] 6 (by kernel_rfl) ⟨_,(k.out.drop (n:=1)).turn (fun h=>h.1) (zO _)⟩ ?l26 ?h26;case l26=>
      intro w' hSw;iterate 2
       refine lkw rfl rfl (by rfl) ?_ ?_
       ·go_simp<;>with_reducible rfl
       try simp only[Act.put,tS,t0,t1]
      trivial
     simp only[zw,zk,Act.put,tS,t0,t1];refine zU [(21,some 57,[]),(22,some 58,[])] [?v27_21,?v27_22] 4 (by kernel_rfl) (.inl ⟨_,(k.out.drop (n:=1)).turn (fun h=>h.1) (zO _)⟩) ?l27 ?h27;case l27=>
      intro w';iterate 2
       refine lkw rfl rfl (by rfl) ?_ ?_
       ·go_simp<;>with_reducible rfl
       try simp only[Act.put,tS,t0,t1]
      trivial
     simp only[zw,zk,Act.put,tS,t0,t1];refine w1 23 3 (by kernel_rfl) rfl ?_;go_wp2_with((with_reducible refine zf ?_);refine zG k rfl (T:=72) rfl (Tryz.zeroValue72 _) ?_;clear k;intro b8 X W k);refine zd (yz ⟨_,(k.out.drop (n:=2)).turn (fun h=>h.1) (zO _)⟩) ?_;refine w1 25 2 (by kernel_rfl) rfl ?_;go_wp2_with((with_reducible refine zx ?_);refine yl k 0 rfl (T:=72) rfl rfl rfl rfl (Tryz.sizeOf72 _) rfl rfl (yU hvt rfl) ?_;clear k;intro W k);refine zd (zJ rfl) ?_;refine w1 26 1 (by kernel_rfl) rfl ?_;go_wp2_with((with_reducible refine zx ?_);refine yl k 1 rfl (T:=243) rfl rfl rfl rfl (Tryz.sizeOf243 _) rfl rfl (zm rfl) ?_;clear k;intro W k);refine zd (qb (by kernel_rfl)) ?_;refine zU [(27,some 10,[])] [?v28_27] 0 (by kernel_rfl) (.inr (by kernel_rfl)) ?l28 ?h28;case l28=>
      intro w';refine lkw rfl rfl (by rfl) ?_ ?_
      ·go_simp<;>with_reducible rfl
      try simp only[Act.put,tS,t0,t1]
      trivial
     simp only[zw,zk,Act.put,tS,t0,t1];refine zv (by kernel_rfl) ?_ _;clear HPer;replace k:Hid (St _ _ _ [(_,_,_),(_,_,_),(_,_,_),(_,_,_),(_,_,_)] _ _ _):=k;replace k:=zj k.out.swap;replace k:Hid (St _ _ _ [(b9,#[.int .u64 ma,.string ms],243),(b8,#[vt,.int .i64 xt],72),(_,_,_),(_,_,_),(_,_,_)] _ _ _):=k;go_wp2_with fail
     go_meet
     exact⟨b8,b9,vt,lt,xt,ma,ms,y,_,rfl,rfl,rfl,hlt2,(by omega),hxt0,hxt1,hmt,hy,hvt,k⟩
    ·go_wp2_with((with_reducible refine zf ?_);refine zG k rfl (T:=72) rfl (Tryz.zeroValue72 _) ?_;clear k;intro b8 X W k)
     refine zd (yz ⟨_,k.out.drop (n:=2)⟩) ?_;refine w1 18 7 (by kernel_rfl) rfl ?_;go_wp2_with fail;obtain⟨vb1,lb,xb1,⟨ebx,hlb,hlb8,hxb0,hxb1⟩,hbx⟩:=k.out.fact.bx _ (List.mem_of_getElem? hbox);obtain⟨rfl,rfl⟩:=gI ebx;refine(Zm _ vb lb xb _ _ hch hbx hlb (by omega) k.out.lt hxb0 hxb1).mono ?_;clear hbx;rintro e W1 ⟨vt,lt,xt,mt,y,rfl,hlt,hlt2,hlt3,hxt0,hxt1,hmt,hy,hb⟩;have hvt:=hlt.one;replace k:=zj ((k.out.call hb).add hlt (zb _ _ _));clear hb hlt;obtain⟨ma,ms,rfl⟩:=msg_lit hmt;go_wp2_with fail;refine zd (yz ⟨_,(k.out.drop (n:=2)).turn (fun h=>h.1) (zO _)⟩) ?_;refine zq [(19,some 36,[25]),(20,some 56,[25])] [?v29_19,?v29_20] 5 (by kernel_rfl) ⟨_,(k.out.drop (n:=2)).turn (fun h=>h.1) (zO _)⟩ ?l29 ?h29;case l29=>
      intro w' hSw;iterate 2
       refine lkw rfl rfl (by rfl) ?_ ?_
       ·go_simp<;>with_reducible rfl
       try simp only[Act.put,tS,t0,t1]
      trivial
     simp only[zw,zk,Act.put,tS,t0,t1];refine zU [(21,some 57,[]),(22,some 58,[])] [?v30_21,?v30_22] 3 (by kernel_rfl) (.inl ⟨_,(k.out.drop (n:=2)).turn (fun h=>h.1) (zO _)⟩) ?l30 ?h30;case l30=>
      intro w';iterate 2
       refine lkw rfl rfl (by rfl) ?_ ?_
       ·go_simp<;>with_reducible rfl
       try simp only[Act.put,tS,t0,t1]
      trivial
     simp only[zw,zk,Act.put,tS,t0,t1];refine w1 25 2 (by kernel_rfl) rfl ?_;go_wp2_with((with_reducible refine zx ?_);refine yl k 0 rfl (T:=72) rfl rfl rfl rfl (Tryz.sizeOf72 _) rfl rfl (yU hvt rfl) ?_;clear k;intro W k);refine zd (zJ rfl) ?_;refine w1 26 1 (by kernel_rfl) rfl ?_;go_wp2_with((with_reducible refine zx ?_);refine yl k 1 rfl (T:=243) rfl rfl rfl rfl (Tryz.sizeOf243 _) rfl rfl (zm rfl) ?_;clear k;intro W k);refine zd (qb (by kernel_rfl)) ?_;refine zU [(27,some 10,[])] [?v31_27] 0 (by kernel_rfl) (.inr (by kernel_rfl)) ?l31 ?h31;case l31=>
      intro w';refine lkw rfl rfl (by rfl) ?_ ?_
      ·go_simp<;>with_reducible rfl
      try simp only[Act.put,tS,t0,t1]
      trivial
     simp only[zw,zk,Act.put,tS,t0,t1];refine zv (by kernel_rfl) ?_ _;clear HPer;replace k:Hid (St _ _ _ [(_,_,_),(_,_,_),(_,_,_),(_,_,_),(_,_,_)] _ _ _):=k;replace k:=zj k.out.swap;replace k:Hid (St _ _ _ [(b9,#[.int .u64 ma,.string ms],243),(b8,#[vt,.int .i64 xt],72),(_,_,_),(_,_,_),(_,_,_)] _ _ _):=k;go_wp2_with fail
     go_meet
     exact⟨b8,b9,vt,lt,xt,ma,ms,y,_,rfl,rfl,rfl,hlt2,(by omega),hxt0,hxt1,hmt,hy,hvt,k⟩
  case rest=>
   obtain⟨b8,b9,vt,lt,xt,ma,ms,y,X,rfl,rfl,rfl,hlt2,hlt3,hxt0,hxt1,hmt,hy,hvt,k2⟩:=hcut;clear k;have k:=k2;clear k2;obtain⟨hms,hmsz⟩:=msg_fit hmt;rcases hy with rfl|rfl
   ·by_cases hlen:C<(ms.size:Int)
    ·have dlen:decide (C<(ms.size:Int))=true:=decide_eq_true hlen
     have hwM:IntKind.u64.wrap (ms.size:Int)=ms.size:=qm (by omega) (by omega);go_wp2_with(first|((with_reducible refine zp ?_);first|go_big_skip|refine zg rfl rfl rfl (by with_reducible rfl) ?_)|((with_reducible refine zz ?_);first|(refine ld1 k rfl rfl (by repeat constructor) (by rfl) ?_)|(refine lda k rfl rfl (by repeat constructor) (by first|with_reducible assumption|rfl) ?_)|(refine ldp k rfl rfl (by repeat constructor) (D:= #[_,_]) (by rfl) (by rfl) ?_)|(refine ldp k rfl rfl (by repeat constructor) (D:= #[_,_,_,_,_]) (by rfl) (by rfl) ?_))|((with_reducible refine zx ?_);first|(refine so1 k rfl rfl rfl (by first|with_reducible assumption|rfl) (by repeat constructor) (by first|with_reducible assumption|rfl) rfl ?_;clear k;intro W k)|(refine soa k rfl rfl rfl (by repeat constructor) (by first|with_reducible assumption|rfl) (by first|with_reducible assumption|rfl) (by first|exact zm rfl|assumption) ?_;clear k;intro W k)|(refine sop k rfl rfl rfl (by repeat constructor) (by first|with_reducible assumption|rfl) (by first|with_reducible assumption|rfl) (by first|exact zm rfl|assumption) rfl ?_;clear k;intro W k))|((with_reducible refine zI ?_);first|(refine bxa k (T:=130) rfl ?_;clear k;intro c130 X W k)|(refine bxa k (T:=132) rfl ?_;clear k;intro c132 X W k))|((with_reducible refine zf ?_);first|(refine ala k Tryz.zeroValue72 ?_;clear k;intro b72 X W k)|(refine ala k Tryz.zeroValue243 ?_;clear k;intro b243 X W k)))
     go_ret2
     exact xv k.out 4 rfl HB.out k.out.fact.1 OK.out HI.out (by omega) (by omega)
    ·have dlen:decide (C<(ms.size:Int))=false:=decide_eq_false hlen
     have hwM:IntKind.u64.wrap (ms.size:Int)=ms.size:=qm (by omega) (by omega);clear hlen;go_wp2_with(first|((with_reducible refine zp ?_);first|go_big_skip|refine zg rfl rfl rfl (by with_reducible rfl) ?_)|((with_reducible refine zz ?_);first|(refine ld1 k rfl rfl (by repeat constructor) (by first|with_reducible assumption|rfl) ?_)|(refine lda k rfl rfl (by repeat constructor) (by first|with_reducible assumption|rfl) ?_)|(refine ldp k rfl rfl (by repeat constructor) (D:= #[_,_]) (by rfl) (by rfl) ?_)|(refine ldp k rfl rfl (by repeat constructor) (D:= #[_,_,_,_,_]) (by rfl) (by rfl) ?_))|((with_reducible refine zx ?_);first|(refine so1 k rfl rfl rfl (by first|with_reducible assumption|rfl) (by repeat constructor) (by first|with_reducible assumption|rfl) rfl ?_;clear k;intro W k)|(refine soa k rfl rfl rfl (by repeat constructor) (by first|with_reducible assumption|rfl) (by first|with_reducible assumption|rfl) (by first|exact zm rfl|assumption) ?_;clear k;intro W k)|(refine sop k rfl rfl rfl (by repeat constructor) (by first|with_reducible assumption|rfl) (by first|with_reducible assumption|rfl) (by first|exact zm rfl|assumption) rfl ?_;clear k;intro W k))|((with_reducible refine zI ?_);first|(refine bxa k (T:=130) rfl ?_;clear k;intro c130 X W k)|(refine bxa k (T:=132) rfl ?_;clear k;intro c132 X W k))|((with_reducible refine zf ?_);first|(refine ala k Tryz.zeroValue72 ?_;clear k;intro b72 X W k)|(refine ala k Tryz.zeroValue243 ?_;clear k;intro b243 X W k)));refine(in_any mm ms B _ (by unfold maxLen;omega) (by omega) hc.2.2.1.1 hc.2.2.1.2).mono ?_;rintro e W1 ⟨kk,z,rfl,hkk,hz,hb⟩;replace k:=zj (k.out.call hb);clear hb;rcases hz with rfl|rfl
     ·obtain⟨hT,hpi,hpa,hst⟩:=mem_set HR.out (s:=kk) (by omega)
      have hag:=OK.out.P.again HM.out hT hpi hpa hst;have hf12:Nat.blt 12 r.size=true:=by rw[hrs];rfl
      go_upto_region 12 with(first|((with_reducible refine zp ?_);first|go_big_skip|refine zg rfl rfl rfl (by with_reducible rfl) ?_)|((with_reducible refine zz ?_);first|(refine ld1 k rfl rfl (by repeat constructor) (by first|with_reducible assumption|rfl) ?_)|(refine lda k rfl rfl (by repeat constructor) (by first|with_reducible assumption|rfl) ?_)|(refine ldp k rfl rfl (by repeat constructor) (D:= #[_,_]) (by rfl) (by rfl) ?_)|(refine ldp k rfl rfl (by repeat constructor) (D:= #[_,_,_,_,_]) (by rfl) (by rfl) ?_))|((with_reducible refine zx ?_);first|(refine so1 k rfl rfl rfl (by rfl) .a3 (by with_reducible assumption) rfl ?_;clear k;intro W k)|(refine soa k rfl rfl rfl (by repeat constructor) (by first|with_reducible assumption|rfl) (by first|with_reducible assumption|rfl) (by first|exact zm rfl|assumption) ?_;clear k;intro W k)|(refine sop k rfl rfl rfl (by repeat constructor) (by first|with_reducible assumption|rfl) (by first|with_reducible assumption|rfl) (by first|exact zm rfl|assumption) rfl ?_;clear k;intro W k))|((with_reducible refine zI ?_);first|(refine bxa k (T:=130) rfl ?_;clear k;intro c130 X W k)|(refine bxa k (T:=132) rfl ?_;clear k;intro c132 X W k))|((with_reducible refine zf ?_);first|(refine ala k Tryz.zeroValue72 ?_;clear k;intro b72 X W k)|(refine ala k Tryz.zeroValue243 ?_;clear k;intro b243 X W k)))
      replace k:Hid (St _ _ _ [(_,_,_),(_,_,_),(_,_,_),(_,r.setIfInBounds 12 (.string kk),_),(_,_,_)] _ _ _):=k;generalize r.setIfInBounds 12 (.string kk)=r' at k hT hag;have hrs':r'.size=26:=hT.size;obtain⟨hPO,hLv,hIn⟩:=hag;have HT:=Lib.hid hT;have HIn:=Lib.hid hIn;clear hT hIn hf12;generalize hlP:jV x.P r'=lP at hPO hLv HIn;go_wp2_with(first|((with_reducible refine zp ?_);first|go_big_skip|refine zg rfl rfl rfl (by with_reducible rfl) ?_)|((with_reducible refine zz ?_);first|(refine ld1 k rfl rfl .a4 (by rfl) ?_)|(refine lda k rfl rfl (by repeat constructor) (by first|with_reducible assumption|rfl) ?_)|(refine ldp k rfl rfl (by repeat constructor) (D:= #[_,_]) (by rfl) (by rfl) ?_)|(refine ldp k rfl rfl (by repeat constructor) (D:= #[_,_,_,_,_]) (by rfl) (by rfl) ?_))|((with_reducible refine zx ?_);first|(refine so1 k rfl rfl rfl (by first|with_reducible assumption|rfl) (by repeat constructor) (by first|with_reducible assumption|rfl) rfl ?_;clear k;intro W k)|(refine soa k rfl rfl rfl (by repeat constructor) (by first|with_reducible assumption|rfl) (by first|with_reducible assumption|rfl) (by first|exact zm rfl|assumption) ?_;clear k;intro W k)|(refine sop k rfl rfl rfl (by repeat constructor) (by first|with_reducible assumption|rfl) (by first|with_reducible assumption|rfl) (by first|exact zm rfl|assumption) rfl ?_;clear k;intro W k))|((with_reducible refine zI ?_);first|(refine bxa k (T:=130) rfl ?_;clear k;intro c130 X W k)|(refine bxa k (T:=132) rfl ?_;clear k;intro c132 X W k))|((with_reducible refine zf ?_);first|(refine ala k Tryz.zeroValue72 ?_;clear k;intro b72 X W k)|(refine ala k Tryz.zeroValue243 ?_;clear k;intro b243 X W k)));have hsl:=k.out.fact.1.Bx;rw[eB] at hsl;refine(cloneBox_any _ x.Bx X _ hsl hbone.out (by omega)).mono ?_;rintro e W1 ⟨v2,rfl,hown,hb⟩;clear hsl;obtain⟨A2,cap,rfl,_⟩:=yb hown;obtain⟨g,cap',cur,ev,hbg,hgk,_⟩:=xI hown (by omega);injection ev with ev1 _ ev2
      subst ev1 ev2;obtain⟨cur,hbg,hgk,hRw⟩:=vX hown rfl hbsz.out (by omega);have hgw:w.heap.size<=g:=Nat.le_trans k.out.only.size hbg;have hfit:i*2+2<=cur.size:=hRw.fits hiB;replace k:=zj (k.out.adopt hb hbg hgk);clear hown hb hgk hbg
      go_upto_region 13 with(first|((with_reducible refine zp ?_);first|go_big_skip|refine zg rfl rfl rfl (by with_reducible rfl) ?_)|((with_reducible refine zz ?_);first|(refine ld1 k rfl rfl (by repeat constructor) (by first|with_reducible assumption|rfl) ?_)|(refine lda k rfl rfl (by repeat constructor) (by first|with_reducible assumption|rfl) ?_)|(refine ldp k rfl rfl (by repeat constructor) (D:= #[_,_]) (by rfl) (by rfl) ?_)|(refine ldp k rfl rfl (by repeat constructor) (D:= #[_,_,_,_,_]) (by rfl) (by rfl) ?_))|((with_reducible refine zx ?_);first|(refine so1 k rfl rfl rfl rfl .a5 (by rfl) (E:=KC {x with vBx:= .slice (some ⟨g,0,none⟩) x.Bx.length cap}) (by rfl) ?_;clear k;intro W k)|(refine so1 k rfl rfl rfl (by first|with_reducible assumption|rfl) (by repeat constructor) (by first|with_reducible assumption|rfl) rfl ?_;clear k;intro W k)|(refine soa k rfl rfl rfl (by repeat constructor) (by first|with_reducible assumption|rfl) (by first|with_reducible assumption|rfl) (by first|exact zm rfl|assumption) ?_;clear k;intro W k)|(refine sop k rfl rfl rfl (by repeat constructor) (by first|with_reducible assumption|rfl) (by first|with_reducible assumption|rfl) (by first|exact zm rfl|assumption) rfl ?_;clear k;intro W k))|((with_reducible refine zI ?_);refine bxa k rfl ?_;clear k;intro b X W k)|((with_reducible refine zf ?_);first|(refine ala k Tryz.zeroValue72 ?_;clear k;intro b72 X W k)|(refine ala k Tryz.zeroValue243 ?_;clear k;intro b243 X W k)))
      have HPer:=Lib.hid k.out.per;refine zt k 9 10 (by kernel_rfl) rfl ?_;clear k;intro W k;refine zq [(0,some 96,[9]),(1,some 97,[9]),(2,some 98,[9]),(3,some 99,[9]),(4,some 100,[9]),(5,some 101,[9]),(6,some 102,[9]),(7,some 103,[9]),(8,some 104,[9])] [?v32_0,?v32_1,?v32_2,?v32_3,?v32_4,?v32_5,?v32_6,?v32_7,?v32_8] 1 (by kernel_rfl) ⟨_,k.out⟩ ?l32 ?h32;case l32=>
       intro w' hSw;iterate 9
        refine lkw rfl rfl (by rfl) ?_ ?_
        ·first|((with_reducible refine yw ?_);first|exact hSw.l1 rfl rfl (by repeat constructor) (by rfl)|exact hSw.la rfl rfl .a2 (by rfl) (by rfl)|exact hSw.lp rfl rfl (by repeat constructor) (D:= #[_,_]) (by rfl) (by rfl) (by rfl))|(go_simp<;>with_reducible rfl)
        try simp only[Act.put,tS,t0,t1]
       trivial
      simp only[zw,zk,Act.put,tS,t0,t1];refine w1 9 0 (by kernel_rfl) rfl ?_;go_wp2_with((with_reducible refine zx ?_);refine xm k 0 rfl (T:=72) rfl rfl rfl rfl (Tryz.sizeOf72 _) rfl hfit (yU hvt rfl) ?_;clear k;intro W k);refine zd (zJ rfl) ?_;refine zv (by kernel_rfl) ?_ _;clear HPer;replace k:Hid (St _ _ _ [(g,patch cur (i*2) #[vt,.int .i64 xt],_),(_,_,_),(_,_,_),(_,_,_),(_,_,_),(_,KC {x with vBx:= .slice (some ⟨g,0,none⟩) x.Bx.length cap},_)] _ _ _):=k
      go_upto_region 14 with fail
      have HPer:=Lib.hid k.out.per;refine zt k 11 12 (by kernel_rfl) rfl ?_;clear k;intro W k;refine zq [(0,some 105,[11]),(1,some 106,[11]),(2,some 107,[11]),(3,some 108,[11]),(4,some 109,[11]),(5,some 110,[11]),(6,some 111,[11])] [?v33_0,?v33_1,?v33_2,?v33_3,?v33_4,?v33_5,?v33_6] 5 (by kernel_rfl) ⟨_,k.out⟩ ?l33 ?h33;case l33=>
       intro w' hSw;iterate 7
        refine lkw rfl rfl (by rfl) ?_ ?_
        ·first|((with_reducible refine yw ?_);first|exact hSw.l1 rfl rfl (by repeat constructor) (by rfl)|exact hSw.la rfl rfl .a4 (by with_reducible assumption) (by rfl))|(go_simp<;>with_reducible rfl)
        try simp only[Act.put,tS,t0,t1]
       trivial
      simp only[zw,zk,Act.put,tS,t0,t1];refine w1 7 4 (by kernel_rfl) rfl ?_;go_wp2_with fail;refine(vj _ x.P r' _ _ k.out.fact.1.P OK.out.P.ty HT.out (by have:=OK.out.P.len;omega)).mono ?_;rw[hlP];rintro e W1 ⟨v1,rfl,hown,hb⟩;have hv1:=xu hown;have hf:=zV hown (fun q hq=>(hPO.ty q hq).size) k.out.lt;replace k:=zj (k.out.call hb);clear hown hb;go_wp2_with fail;refine zd (yz ⟨_,k.out⟩) ?_;refine zq [(8,some 113,[9,10,11]),(9,some 114,[10,11]),(10,some 115,[11])] [?v34_8,?v34_9,?v34_10] 1 (by kernel_rfl) ⟨_,k.out⟩ ?l34 ?h34;case l34=>
       intro w' hSw;iterate 3
        refine lkw rfl rfl (by rfl) ?_ ?_
        ·go_simp<;>with_reducible rfl
        try simp only[Act.put,tS,t0,t1]
       trivial
      simp only[zw,zk,Act.put,tS,t0,t1];refine w1 11 0 (by kernel_rfl) rfl ?_;replace k:=zj (k.out.add hf (zb _ _ _));clear hf;go_wp2_with((with_reducible refine zx ?_);refine yE k (E:=KC {x with vBx:= .slice (some ⟨g,0,none⟩) x.Bx.length cap,vP:=v1}) (G':=fun X W=>(KSl x X W/\Sl 2 vt lt X W)/\Sl 26 v1 lP X W) rfl rfl rfl hv1 .a5 (by rfl) (by rfl) (((zO x).and (zb _ _ _)).and (zb _ _ _)) (fun X W h=>h) ?_;clear k;intro W k);refine zd (zJ rfl) ?_;refine zv (by kernel_rfl) ?_ _;clear HPer;have hss2:(ms.size:Int)<4294967296:=by omega
      go_wp2_with(first|((with_reducible refine zp ?_);first|go_big_skip|refine zg rfl rfl rfl (by with_reducible rfl) ?_)|((with_reducible refine zz ?_);first|(refine ld1 k rfl rfl .a1 (by rfl) ?_)|(refine lda k rfl rfl (by repeat constructor) (by first|with_reducible assumption|rfl) ?_)|(refine ldp k rfl rfl (by repeat constructor) (D:= #[_,_]) (by rfl) (by rfl) ?_)|(refine ldp k rfl rfl (by repeat constructor) (D:= #[_,_,_,_,_]) (by rfl) (by rfl) ?_))|((with_reducible refine zx ?_);first|(refine so1 k rfl rfl rfl (by first|with_reducible assumption|rfl) (by repeat constructor) (by first|with_reducible assumption|rfl) rfl ?_;clear k;intro W k)|(refine soa k rfl rfl rfl (by repeat constructor) (by first|with_reducible assumption|rfl) (by first|with_reducible assumption|rfl) (by first|exact zm rfl|assumption) ?_;clear k;intro W k)|(refine sop k rfl rfl rfl (by repeat constructor) (by first|with_reducible assumption|rfl) (by first|with_reducible assumption|rfl) (by first|exact zm rfl|assumption) rfl ?_;clear k;intro W k))|((with_reducible refine zI ?_);first|(refine bxa k (T:=130) rfl ?_;clear k;intro c130 X W k)|(refine bxa k (T:=132) rfl ?_;clear k;intro c132 X W k))|((with_reducible refine zf ?_);first|(refine ala k Tryz.zeroValue72 ?_;clear k;intro b72 X W k)|(refine ala k Tryz.zeroValue243 ?_;clear k;intro b243 X W k)));exact bodyPost_ret (xJ rfl rfl rfl) rfl (does_box k.out 4 rfl HB.out hX0 hgw OK.out hRw hiB hlt2 (by omega) hxt0 hxt1 hPO hLv HIn.out (by omega) hss2)
     ·go_wp2_with(first|((with_reducible refine zp ?_);first|go_big_skip|refine zg rfl rfl rfl (by with_reducible rfl) ?_)|((with_reducible refine zz ?_);first|(refine ld1 k rfl rfl (by repeat constructor) (by first|with_reducible assumption|rfl) ?_)|(refine lda k rfl rfl (by repeat constructor) (by first|with_reducible assumption|rfl) ?_)|(refine ldp k rfl rfl (by repeat constructor) (D:= #[_,_]) (by rfl) (by rfl) ?_)|(refine ldp k rfl rfl (by repeat constructor) (D:= #[_,_,_,_,_]) (by rfl) (by rfl) ?_))|((with_reducible refine zx ?_);first|(refine so1 k rfl rfl rfl (by first|with_reducible assumption|rfl) (by repeat constructor) (by first|with_reducible assumption|rfl) rfl ?_;clear k;intro W k)|(refine soa k rfl rfl rfl (by repeat constructor) (by first|with_reducible assumption|rfl) (by first|with_reducible assumption|rfl) (by first|exact zm rfl|assumption) ?_;clear k;intro W k)|(refine sop k rfl rfl rfl (by repeat constructor) (by first|with_reducible assumption|rfl) (by first|with_reducible assumption|rfl) (by first|exact zm rfl|assumption) rfl ?_;clear k;intro W k))|((with_reducible refine zI ?_);first|(refine bxa k (T:=130) rfl ?_;clear k;intro c130 X W k)|(refine bxa k (T:=132) rfl ?_;clear k;intro c132 X W k))|((with_reducible refine zf ?_);first|(refine ala k Tryz.zeroValue72 ?_;clear k;intro b72 X W k)|(refine ala k Tryz.zeroValue243 ?_;clear k;intro b243 X W k)))
      go_ret2
      exact xv k.out 4 rfl HB.out k.out.fact.1 OK.out HI.out (by omega) (by omega)
   ·go_wp2_with(first|((with_reducible refine zp ?_);first|go_big_skip|refine zg rfl rfl rfl (by with_reducible rfl) ?_)|((with_reducible refine zz ?_);first|(refine ld1 k rfl rfl (by repeat constructor) (by first|with_reducible assumption|rfl) ?_)|(refine lda k rfl rfl (by repeat constructor) (by first|with_reducible assumption|rfl) ?_)|(refine ldp k rfl rfl (by repeat constructor) (D:= #[_,_]) (by rfl) (by rfl) ?_)|(refine ldp k rfl rfl (by repeat constructor) (D:= #[_,_,_,_,_]) (by rfl) (by rfl) ?_))|((with_reducible refine zx ?_);first|(refine so1 k rfl rfl rfl (by first|with_reducible assumption|rfl) (by repeat constructor) (by first|with_reducible assumption|rfl) rfl ?_;clear k;intro W k)|(refine soa k rfl rfl rfl (by repeat constructor) (by first|with_reducible assumption|rfl) (by first|with_reducible assumption|rfl) (by first|exact zm rfl|assumption) ?_;clear k;intro W k)|(refine sop k rfl rfl rfl (by repeat constructor) (by first|with_reducible assumption|rfl) (by first|with_reducible assumption|rfl) (by first|exact zm rfl|assumption) rfl ?_;clear k;intro W k))|((with_reducible refine zI ?_);first|(refine bxa k (T:=130) rfl ?_;clear k;intro c130 X W k)|(refine bxa k (T:=132) rfl ?_;clear k;intro c132 X W k))|((with_reducible refine zf ?_);first|(refine ala k Tryz.zeroValue72 ?_;clear k;intro b72 X W k)|(refine ala k Tryz.zeroValue243 ?_;clear k;intro b243 X W k)))
    go_ret2
    exact xv k.out 4 rfl HB.out k.out.fact.1 OK.out HI.out (by omega) (by omega)
end Go.Proofs.YtaccidkgnkmagaaGreatDoor.Top
