/-
  Walks and laws of the whole machine: Ins, Clip, Box. Conditions: each theorem names its own.
-/
import Derived.Test.YtaccidkgnkmagaaGreatDoorTs03
import Derived.IntWalk
set_option maxRecDepth 16000
set_option maxHeartbeats 12800000
set_option linter.unusedVariables false
set_option linter.unusedSimpArgs false
namespace Go.Proofs.YtaccidkgnkmagaaGreatDoor.Top
open Go.RowKit
theorem xI{w:World}{base e size n:Nat}{v:Value}{xs:List Value}(h:w.ownsRow base e size v n xs)(hn:0<n): ∃g cap cur,v= .slice (some ⟨g,0,none⟩) n cap/\base<=g/\Blk w g cur e/\n<=cap/\cap<=maxLen/\cur.size=cap*size/\cur.toList.take (n*size)=xs:=by
 rcases h.2 with⟨_,h0⟩|⟨g,cap,cur,h1,h2,h3,h4,h5,h6,h7⟩
 ·omega
 ·exact⟨g,cap,cur,h1,h2,h3,h4,h5,h6,h7⟩
def OwnR(base e size:Nat)(l:List (Array Value))(w:World)(en:Ending)(w':World):Prop:= ∃v',en= .returned v' /\w'.ownsRow base e size v' l.length (yy l)/\Below base w w'
theorem qU{size:Nat}{b c:Nat}{x:Array Value}{e:TypeId}{w:World}(hk:Blk w b x e)(hx:x.size=size)(hc:1<=c)(hc2:c<=maxLen):Sl size (.slice (some ⟨b,0,none⟩) 1 c) [x] (fun _=>False) w:=by
 refine⟨_,c,rfl,⟨by simp[yy,hx],hc,hc2,(fun h=>by cases h),fun p hp=> ?_⟩,(by simpa using hx),fun _ _ _ h=>h.elim⟩;injection hp with hp
 subst hp;refine⟨fun _=>hk.lt,fun j u hu=> ?_⟩;have e1:(⟨b,0,none⟩:Addr).add j=⟨b,j,none⟩:=by unfold Addr.add;split<;>simp_all
 rw[e1,hk.rules.1];simpa[yy] using hu
theorem Zu{l:List (Array Value)}(h: ∀r∈l,yZ r): ∀u∈yy l,u.oneCell'=true:=by
 intro u hu;obtain⟨r,hr,hu⟩:=List.mem_flatMap.1 hu;exact h r hr u hu
theorem gm{w:World}{b:Nat}{C:Array Value}{T:TypeId}(h:Blk w b C T):w.shape? b=some (T,C.size):=by
 unfold Blk at h;simp[World.shape?,h]
theorem xY(b o j:Nat):(⟨b,o,none⟩:Addr).add j=⟨b,o+j,none⟩:=by unfold Addr.add;split<;>simp_all
theorem insSpan_end(base:Nat)(v:Value)(l:List (Array Value))(i:Nat)(bu:Nat)(x:Array Value)(w:World)(hown:w.ownsRow base 165 3 v l.length (yy l))(hs: ∀r∈l,r.size=3)(h1: ∀r∈l,yZ r)(hi:i<=l.length)(hk:Blk w bu x 165)(hxs:x.size=3)(hx1:yZ x)(hne:v.ownBlock≠some bu)(hle:l.length<=100000000)(hbase:base<=w.heap.size)(hin:i=l.length):
  Calls Tryz.prog 77 #[v,.int .i64 i,.slice (some ⟨bu,0,none⟩) 1 1] w (OwnR base 165 3 (l.take i++ [x]++l.drop i) w):=by
 subst hin;obtain⟨A,c,rfl,hA⟩:=yb hown;have hlen:l.length<=9223372036854775807:=by omega
 have hcap:l.length<=c:=(RdC.of_own hown).2.1;have HO:=Lib.hid hown;have HS:=Lib.hid hs;have H1:=Lib.hid h1;clear hown hs h1 hA;have HF:Hid (l.take l.length++ [x]++l.drop l.length=l++ [x]):=show _=_ by simp
 rw[HF.out];clear HF;have hsl:=Lib.hid (qU hk hxs (Nat.le_refl 1) (by unfold maxLen;omega));go_enter Tryz.func77,Tryz.ntmps77;go_wp2_with(refine yO jl (by decide) rfl (.tmp 23) (.tmp 24) rfl base _ l rfl HO.out (fun _=>False) _ [x] rfl hsl.out (by simpa using hx1) (by simp;omega) (by omega) hbase ?_;intro v' w' hown' hb' _ _ _);all_goals
  go_ret
  exact⟨v',rfl,hown',hb'⟩
theorem insSpan_grow(base:Nat)(v:Value)(l:List (Array Value))(i:Nat)(bu:Nat)(x:Array Value)(w:World)(hown:w.ownsRow base 165 3 v l.length (yy l))(hs: ∀r∈l,r.size=3)(h1: ∀r∈l,yZ r)(hi:i<=l.length)(hk:Blk w bu x 165)(hxs:x.size=3)(hx1:yZ x)(hne:v.ownBlock≠some bu)(hle:l.length<=100000000)(hbase:base<=w.heap.size)(hin:i<l.length)(hcap: ∀A n c,v= .slice A n c->c<n+1):
  Calls Tryz.prog 77 #[v,.int .i64 i,.slice (some ⟨bu,0,none⟩) 1 1] w (OwnR base 165 3 (l.take i++ [x]++l.drop i) w):=by
 obtain⟨g,cap,cur,rfl,hbg,hkc,hnc,hcm,hcs,htake⟩:=xI hown (by omega);have hcap:=hcap _ _ _ rfl;obtain rfl:cap=l.length:=by omega
 have hcm':l.length<=9223372036854775807:=by omega
 have hsz1:=xz hs;have holds: ∀b,some (⟨g,0,none⟩:Addr)=some b-> ∀j u,(yy (l.take i))[j]? =some u->w.cell? (b.add j)=some u:=by
  intro b hb j u hj;injection hb with hb;subst hb;rw[xY,Nat.zero_add,hkc.rules.1];have h2:(yy l)[j]? =some u:=by
   rw[<-vJ hs i hi,List.getElem?_take] at hj;split at hj
   ·exact hj
   ·cases hj
  rw[<-htake,List.getElem?_take] at h2;split at h2
  ·simpa using h2
  ·cases h2
 have hlt:(yy (l.take i)).length=i*3:=by rw[xz (fun r hr=>hs r (List.mem_of_mem_take hr)),List.length_take,Nat.min_eq_left hi]
 have hld:(yy (l.drop i)).length=(l.length-i)*3:=by rw[xz (fun r hr=>hs r (List.mem_of_mem_drop hr)),List.length_drop]
 have hsrc: ∀j u,(yy (l.drop i))[j]? =some u->w.cell? ((⟨g,i*3,none⟩:Addr).add j)=some u:=by
  intro j u hj;rw[xY,hkc.rules.1];rw[<-vV hs i hi,List.getElem?_drop] at hj;rw[<-htake,List.getElem?_take] at hj;split at hj
  ·simpa using hj
  ·cases hj
 have H2:=Lib.hid holds;have H3:=Lib.hid hlt;have H4:=Lib.hid hld;have H5:=Lib.hid hsrc;have H6:=Lib.hid (Zu (l:=l.drop i) (fun r hr=>h1 r (List.mem_of_mem_drop hr)));have HS:=Lib.hid hs;have hne':g≠bu:=by intro e;subst e;exact hne rfl
 have hxr:=hk.rules.1;have H7:Hid (∀j u,x.toList[j]? =some u->w.cell? ((⟨bu,0,none⟩:Addr).add j)=some u):=fun j u hj=>by rw[xY,Nat.zero_add,hxr];simpa using hj
 have H8:Hid (∀u∈x.toList,u.oneCell'=true):=hx1;have HN:=Lib.hid hne';have hi0:((i:Int)==(l.length:Int))=false:=by rw[beq_eq_false_iff_ne];omega
 have hgt:decide ((l.length:Int)<(l.length:Int)+1)=true:=decide_eq_true (by omega);have htn:Tryz.prog.underlying 3=some (.int .i64):=Tryz.underlying3;have hk0:((l.length:Int)+1-i)=((l.length+1-i:Nat):Int):=by omega
 clear holds hlt hld hsrc hown hs h1 htake hsz1 hne hne' hcm hxr hcap;go_enter Tryz.func77,Tryz.ntmps77;go_wp2_with(first|(refine vq jl (by decide) rfl (.tmp 34) (.tmp 39) 3 htn rfl (some ⟨g,0,none⟩) i l.length (l.length+1-i) (yy (l.take i)) rfl (by first|rfl|exact congrArg (Value.int .i64) hk0) (fun h=>by cases h) H3.out H2.out (by omega) (by omega) (by omega) (by omega) ?_;intro W1 c1 C1 hk1 hC1 hn1 hc1 ht1 hb1 hz1)|(refine xf jl rfl (.tmp 43) (.tmp 44) rfl w.heap.size (i*3) C1 165 hk1 _ _ _ _ _ _ 1 rfl rfl (Nat.min_eq_left (by omega)) x.toList (by simp[hxs]) (fun _=>rfl) (fun _=>⟨_,rfl,fun j u hj=>(hb1.cell (p:=(⟨bu,0,none⟩:Addr).add j) (by rw[xY];exact hk.lt)).trans (H7.out j u hj)⟩) (by rw[Array.length_toList,hxs,hC1];omega) H8.out ?_;intro W2 hk2 hb2 hz2 hg2));have HB2:=Lib.hid ((hb1.mono hbase).trans (hb2.mono hbase));have HC2:=Lib.hid (hkc.below (hb1.trans hb2));have hsrc2:Hid (∀j u,(yy (l.drop i))[j]? =some u-> ∀W,Blk W g cur 165->W.cell? ((⟨g,i*3,none⟩:Addr).add j)=some u):=fun j u hj W hW=>by
  have:=H5.out j u hj;rw[xY] at this⊢;rw[hW.rules.1,<-hkc.rules.1];exact this
 clear hk1 hb1 hb2 hg2;go_wp2_with fail;have hw1:IntKind.i64.wrap ((i:Int)+1)=(i:Int)+1:=IntWalk.i64_in _ (by omega);have hw2:(0:Int)<=(i:Int)+1:=by omega
 have hw3:(i:Int)+1<=(i:Int)+((l.length+1-i:Nat):Int):=by omega
 have hw4:((i:Int)+1).toNat=i+1:=by omega
 have hw5:(c1=i+1)=False:=by rw[eq_iff_iff,iff_false];omega
 have hw6:(i:Int)<=(l.length:Int):=by omega
 have hw7:(l.length=i)=False:=by rw[eq_iff_iff,iff_false];omega
 refine qu (s:=8) (n:=9) (fun W=>Blk W w.heap.size (patch C1 (i*3) x.toList.toArray) 165/\Blk W g cur 165/\Below base w W) (by kernel_rfl) rfl ⟨hk2,HC2.out,HB2.out.drew⟩ (fun W hS=> ?_);refine zq [(0,some 46,[4,8]),(1,some 47,[3,4,8]),(2,some 48,[3,4,8]),(3,some 49,[4,8]),(4,some 50,[8]),(5,some 51,[7,8]),(6,some 52,[7,8]),(7,some 53,[8])] [?v1_0,?v1_1,?v1_2,?v1_3,?v1_4,?v1_5,?v1_6,?v1_7] 1 (by kernel_rfl) hS ?l1 ?h1;case l1=>
  intro w' hSw;refine zu rfl rfl (by rfl) ?_ ?_
  ·go_simp
   try(with_reducible rfl)
  try simp only[Act.put,tS,t0,t1]
  refine zu rfl rfl (by rfl) ?_ ?_
  ·go_simp
   try(with_reducible rfl)
  try simp only[Act.put,tS,t0,t1]
  refine zu rfl rfl (by rfl) ?_ ?_
  ·go_simp
   try(with_reducible rfl)
  try simp only[Act.put,tS,t0,t1]
  refine zu rfl rfl (by rfl) ?_ ?_
  ·go_simp
   try(with_reducible rfl)
  try simp only[Act.put,tS,t0,t1]
  refine zu rfl rfl (by rfl) ?_ ?_
  ·go_simp
   try(with_reducible rfl)
  try simp only[Act.put,tS,t0,t1]
  refine zu rfl rfl (by rfl) ?_ ?_
  ·go_simp
   try(with_reducible rfl)
  try simp only[Act.put,tS,t0,t1]
  refine zu rfl rfl (by rfl) ?_ ?_
  ·go_simp
   try(with_reducible rfl)
  try simp only[Act.put,tS,t0,t1]
  refine zu rfl rfl (by rfl) ?_ ?_
  ·go_simp
   try(with_reducible rfl)
  try simp only[Act.put,tS,t0,t1]
  trivial
 simp only[zw,zk,Act.put,tS,t0,t1];refine vp (i:=8) (fuel:=0) (by kernel_rfl) rfl ?_;refine xf jl rfl (.tmp 50) (.tmp 53) rfl w.heap.size ((i+1)*3) _ 165 hS.1 _ _ _ _ _ _ (l.length-i) rfl rfl (Nat.min_eq_left (by omega)) (yy (l.drop i)) H4.out (fun _=>by first|rfl|simp) (fun _=>⟨_,rfl,fun j u hj=>hsrc2.out j u hj W hS.2.1⟩) (by rw[H4.out,yd _ _ _ (by simp[hxs];omega),hC1];omega) H6.out ?_;intro W4 hk4 hb4 hz4 hg4;have hB4:=hS.2.2.trans (hb4.mono hbase);refine wpList_nil ?_;refine zd (zJ rfl) ?_;refine zv (by kernel_rfl) ?_ _;go_wp2_with fail
 go_ret
 refine⟨_,rfl,?_,hB4⟩;have hlen:(l.take i++ [x]++l.drop i).length=i+(l.length+1-i):=by simp;omega
 have hxl:x.toList.toArray=x:=by simp
 have hdl:(yy (l.drop i)).toArray.size=(l.length-i)*3:=by simp[H4.out]
 rw[hlen];refine⟨?_,.inr ⟨w.heap.size,c1,_,rfl,hbase,hk4,by omega,hc1,?_,?_⟩⟩
 ·rw[xz (size:=3),hlen]
  intro r hr;simp only[List.mem_append,List.mem_singleton] at hr;rcases hr with(hr|rfl)|hr
  ·exact HS.out r (List.mem_of_mem_take hr)
  ·exact hxs
  ·exact HS.out r (List.mem_of_mem_drop hr)
 ·rw[yd,yd]
  ·exact hC1
  ·rw[hxl,hxs,hC1];omega
  ·rw[yd,hdl,hC1]
   ·omega
   ·rw[hxl,hxs,hC1];omega
 ·have htp:=(vf C1 x (yy (l.drop i)).toArray (i*3) (by rw[hxs,hdl,hC1];omega)).2
  have e1:i*3+x.size=(i+1)*3:=by rw[hxs];omega
  have e2:i*3+x.size+(yy (l.drop i)).toArray.size=(i+(l.length+1-i))*3:=by rw[hxs,hdl];omega
  rw[e2,e1] at htp;rw[hxl,htp,ht1,xG,xG];simp[yy]
theorem insSpan_shift(base:Nat)(v:Value)(l:List (Array Value))(i:Nat)(bu:Nat)(x:Array Value)(w:World)(hown:w.ownsRow base 165 3 v l.length (yy l))(hs: ∀r∈l,r.size=3)(h1: ∀r∈l,yZ r)(hi:i<=l.length)(hk:Blk w bu x 165)(hxs:x.size=3)(hx1:yZ x)(hne:v.ownBlock≠some bu)(hle:l.length<=100000000)(_hbase:base<=w.heap.size)(hin:i<l.length)(hcap: ∀A n c,v= .slice A n c->n+1<=c):
  Calls Tryz.prog 77 #[v,.int .i64 i,.slice (some ⟨bu,0,none⟩) 1 1] w (OwnR base 165 3 (l.take i++ [x]++l.drop i) w):=by
 obtain⟨g,cap,cur,rfl,hbg,hkc,hnc,hcm,hcs,htake⟩:=xI hown (by omega);have hcp:=hcap _ _ _ rfl;have hcm':cap<=9223372036854775807:=hcm;have hlt:(yy (l.take i)).length=i*3:=by rw[xz (fun r hr=>hs r (List.mem_of_mem_take hr)),List.length_take,Nat.min_eq_left hi]
 have hld:(yy (l.drop i)).length=(l.length-i)*3:=by rw[xz (fun r hr=>hs r (List.mem_of_mem_drop hr)),List.length_drop]
 have hsrc: ∀j u,(yy (l.drop i))[j]? =some u-> ∀W,Blk W g cur 165->W.cell? ((⟨g,i*3,none⟩:Addr).add j)=some u:=by
  intro j u hj W hW;rw[xY,hW.rules.1];rw[<-vV hs i hi,List.getElem?_drop] at hj;rw[<-htake,List.getElem?_take] at hj;split at hj
  ·simpa using hj
  ·cases hj
 have H3:=Lib.hid hlt;have H4:=Lib.hid hld;have H5:=Lib.hid hsrc;have H6:=Lib.hid (Zu (l:=l.drop i) (fun r hr=>h1 r (List.mem_of_mem_drop hr)));have HS:=Lib.hid hs;have HT:=Lib.hid htake;have hne':g≠bu:=by intro e;subst e;exact hne rfl
 have hnes:some bu≠some g:=by intro e;injection e with e;exact hne' e.symm
 have hne2:bu≠g:=fun e=>hne' e.symm;have HNS:=Lib.hid hnes;have H8:Hid (∀u∈x.toList,u.oneCell'=true):=hx1;have hi0:((i:Int)==(l.length:Int))=false:=by rw[beq_eq_false_iff_ne];omega
 have hcx:0<cur.size:=by rw[hcs];omega
 obtain⟨cx,hcx⟩: ∃cx,cur.size=cx+1:=⟨cur.size-1,by omega⟩;have hov:(callFunc 107 #[.slice (some ⟨bu,0,none⟩) 1 1,.slice (some ⟨g,(i+1)*3,none⟩) (l.length-i) (cap-(i+1))]).run Tryz.prog w= .ok (.value (.bool false)) w:=by
  rw[run_callFunc_extern Tryz.func107 (by kernel_rfl) (by kernel_rfl) (by kernel_rfl) (e:=Extern.SlicesOverlaps.overlaps #[48,48] #[4]) (by kernel_rfl),
   Lib.run_overlaps_apart w 48 4 165 Tryz.underlying48 3 Tryz.sizeOf165 ⟨bu,0,none⟩ ⟨g,(i+1)*3,none⟩ 1 1 (l.length-i) (cap-(i+1)) hne2 165 165 x.size (cx+1) (gm hk) (by rw[<-hcx];exact gm hkc) (by omega) (hk.rules.2 0) (hk.rules.2 x.size)]
  rfl
 have hw1:IntKind.i64.wrap ((i:Int)+1)=(i:Int)+1:=IntWalk.i64_in _ (by omega);have hw2:(0:Int)<=(i:Int)+1:=by omega
 have hw3:(i:Int)+1<=((l.length:Int)+1):=by omega
 have hw4:((i:Int)+1).toNat=i+1:=by omega
 have hw5:(cap=i+1)=False:=by rw[eq_iff_iff,iff_false];omega
 have hw6:(i:Int)<=(l.length:Int)+1:=by omega
 have hw7:(cap=i)=False:=by rw[eq_iff_iff,iff_false];omega
 have hw8:l.length+1-(i+1)=l.length-i:=by omega
 have hw9:((l.length:Int)+1).toNat=l.length+1:=by omega
 have hw10:decide ((cap:Int)<(l.length:Int)+1)=false:=decide_eq_false (by omega);clear hsrc hown hs h1 htake hlt hld hne hne' hnes hne2 hcm hcap hcx;go_enter Tryz.func77,Tryz.ntmps77;go_wp2_with fail;refine qu (s:=8) (n:=9) (fun W=>Blk W g cur 165/\Blk W bu x 165/\Below base w W) (by kernel_rfl) rfl ⟨hkc,hk,(Below.refl _ _).drew⟩ (fun W hS=> ?_);refine zq [(0,some 69,[4,8]),(1,some 70,[3,4,8]),(2,some 71,[3,4,8]),(3,some 72,[4,8]),(4,some 73,[8]),(5,some 74,[7,8]),(6,some 75,[7,8]),(7,some 76,[8])] [?v2_0,?v2_1,?v2_2,?v2_3,?v2_4,?v2_5,?v2_6,?v2_7] 1 (by kernel_rfl) hS ?l2 ?h2;case l2=>
  intro w' hSw;refine zu rfl rfl (by rfl) ?_ ?_
  ·go_simp
   try(with_reducible rfl)
  try simp only[Act.put,tS,t0,t1]
  refine zu rfl rfl (by rfl) ?_ ?_
  ·go_simp
   try(with_reducible rfl)
  try simp only[Act.put,tS,t0,t1]
  refine zu rfl rfl (by rfl) ?_ ?_
  ·go_simp
   try(with_reducible rfl)
  try simp only[Act.put,tS,t0,t1]
  refine zu rfl rfl (by rfl) ?_ ?_
  ·go_simp
   try(with_reducible rfl)
  try simp only[Act.put,tS,t0,t1]
  refine zu rfl rfl (by rfl) ?_ ?_
  ·go_simp
   try(with_reducible rfl)
  try simp only[Act.put,tS,t0,t1]
  refine zu rfl rfl (by rfl) ?_ ?_
  ·go_simp
   try(with_reducible rfl)
  try simp only[Act.put,tS,t0,t1]
  refine zu rfl rfl (by rfl) ?_ ?_
  ·go_simp
   try(with_reducible rfl)
  try simp only[Act.put,tS,t0,t1]
  refine zu rfl rfl (by rfl) ?_ ?_
  ·go_simp
   try(with_reducible rfl)
  try simp only[Act.put,tS,t0,t1]
  trivial
 simp only[zw,zk,Act.put,tS,t0,t1];refine vp (i:=8) (fuel:=0) (by kernel_rfl) rfl ?_;refine xf jl rfl (.tmp 73) (.tmp 76) rfl g ((i+1)*3) cur 165 hS.1 _ _ _ _ _ _ (l.length-i) rfl rfl (Nat.min_eq_right (by omega)) (yy (l.drop i)) H4.out (fun _=>by first|rfl|simp) (fun _=>⟨_,rfl,fun j u hj=>H5.out j u hj W hS.1⟩) (by rw[H4.out,hcs];omega) H6.out ?_;intro W3 hk3 hb3 hz3 hg3;have hB3:=Lib.hid (hS.2.2.trans (hb3.mono hbg));have hu3:Hid (Blk W3 bu x 165):=show Blk W3 bu x 165 from(hg3.block bu hS.2.1.lt HNS.out).trans hS.2.1;clear hb3 hg3 hS;refine wpList_nil ?_;refine zd (zJ rfl) ?_;refine zv (by kernel_rfl) ?_ _;obtain⟨HK3⟩:Nonempty (Hid (Blk W3 g (patch cur ((i+1)*3) (yy (l.drop i)).toArray) 165)):=⟨hk3⟩;clear hk3 hov hkc hk;go_wp2_with(refine xf jl rfl (.tmp 80) (.tmp 81) rfl g (i*3) _ 165 HK3.out _ _ _ _ _ _ 1 rfl rfl (Nat.min_eq_left (by omega)) x.toList (by simp[hxs]) (fun _=>rfl) (fun _=>⟨_,rfl,fun j u hj=>by rw[xY,Nat.zero_add,hu3.out.rules.1];simpa using hj⟩) (by rw[Array.length_toList,hxs,yd _ _ _ (by simp[H4.out,hcs];omega),hcs];omega) H8.out ?_;intro W4 hk4 hb4 hz4 hg4)
 go_ret
 refine⟨_,rfl,?_,hB3.out.trans (hb4.mono hbg)⟩;have hlen:(l.take i++ [x]++l.drop i).length=l.length+1:=by simp;omega
 have hxl:x.toList.toArray=x:=by simp
 have hdl:(yy (l.drop i)).toArray.size=(l.length-i)*3:=by simp[H4.out]
 rw[hlen];refine⟨?_,.inr ⟨g,cap,_,rfl,hbg,hk4,by omega,hcm',?_,?_⟩⟩
 ·rw[xz (size:=3),hlen]
  intro r hr;simp only[List.mem_append,List.mem_singleton] at hr;rcases hr with(hr|rfl)|hr
  ·exact HS.out r (List.mem_of_mem_take hr)
  ·exact hxs
  ·exact HS.out r (List.mem_of_mem_drop hr)
 ·rw[yd,yd]
  ·exact hcs
  ·rw[hdl,hcs];omega
  ·rw[yd,hxl,hxs,hcs]
   ·omega
   ·rw[hdl,hcs];omega
 ·have htp:=(vf cur x (yy (l.drop i)).toArray (i*3) (by rw[hxs,hdl,hcs];omega)).1
  have e1:i*3+x.size=(i+1)*3:=by rw[hxs];omega
  have e2:i*3+x.size+(yy (l.drop i)).toArray.size=(l.length+1)*3:=by rw[hxs,hdl];omega
  have e3:cur.toList.take (i*3)=yy (l.take i):=by
   rw[<-vJ HS.out i hi,<-HT.out,List.take_take,Nat.min_eq_left (by omega)]
  rw[e2,e1] at htp;rw[hxl,htp,e3,xG,xG];simp[yy]
theorem jX(base:Nat)(v:Value)(l:List (Array Value))(i:Nat)(bu:Nat)(x:Array Value)(w:World)(hown:w.ownsRow base 165 3 v l.length (yy l))(hs: ∀r∈l,r.size=3)(h1: ∀r∈l,yZ r)(hi:i<=l.length)(hk:Blk w bu x 165)(hxs:x.size=3)(hx1:yZ x)(hne:v.ownBlock≠some bu)(hle:l.length<=100000000)(hbase:base<=w.heap.size):
  Calls Tryz.prog 77 #[v,.int .i64 i,.slice (some ⟨bu,0,none⟩) 1 1] w (OwnR base 165 3 (l.take i++ [x]++l.drop i) w):=by
 by_cases hin:i=l.length
 ·exact insSpan_end base v l i bu x w hown hs h1 hi hk hxs hx1 hne hle hbase hin
 ·obtain⟨g,cap,cur,rfl,_⟩:=xI hown (by omega)
  by_cases hcap:l.length+1<=cap
  ·exact insSpan_shift base _ l i bu x w hown hs h1 hi hk hxs hx1 hne hle hbase (by omega) (fun A n c e=>by injection e with _ e1 e2;omega)
  ·exact insSpan_grow base _ l i bu x w hown hs h1 hi hk hxs hx1 hne hle hbase (by omega) (fun A n c e=>by injection e with _ e1 e2;omega)
theorem insProc_end(base:Nat)(v:Value)(l:List (Array Value))(i:Nat)(bu:Nat)(x:Array Value)(w:World)(hown:w.ownsRow base 132 26 v l.length (yy l))(hs: ∀r∈l,r.size=26)(h1: ∀r∈l,yZ r)(hi:i<=l.length)(hk:Blk w bu x 132)(hxs:x.size=26)(hx1:yZ x)(hne:v.ownBlock≠some bu)(hle:l.length<=100000000)(hbase:base<=w.heap.size)(hin:i=l.length):
  Calls Tryz.prog 84 #[v,.int .i64 i,.slice (some ⟨bu,0,none⟩) 1 1] w (OwnR base 132 26 (l.take i++ [x]++l.drop i) w):=by
 subst hin;obtain⟨A,c,rfl,hA⟩:=yb hown;have hlen:l.length<=9223372036854775807:=by omega
 have hcap:l.length<=c:=(RdC.of_own hown).2.1;have HO:=Lib.hid hown;have HS:=Lib.hid hs;have H1:=Lib.hid h1;clear hown hs h1 hA;have HF:Hid (l.take l.length++ [x]++l.drop l.length=l++ [x]):=show _=_ by simp
 rw[HF.out];clear HF;have hsl:=Lib.hid (qU hk hxs (Nat.le_refl 1) (by unfold maxLen;omega));go_enter Tryz.func84,Tryz.ntmps84;go_wp2_with(refine yO gG (by decide) rfl (.tmp 23) (.tmp 24) rfl base _ l rfl HO.out (fun _=>False) _ [x] rfl hsl.out (by simpa using hx1) (by simp;omega) (by omega) hbase ?_;intro v' w' hown' hb' _ _ _);all_goals
  go_ret
  exact⟨v',rfl,hown',hb'⟩
theorem insProc_grow(base:Nat)(v:Value)(l:List (Array Value))(i:Nat)(bu:Nat)(x:Array Value)(w:World)(hown:w.ownsRow base 132 26 v l.length (yy l))(hs: ∀r∈l,r.size=26)(h1: ∀r∈l,yZ r)(hi:i<=l.length)(hk:Blk w bu x 132)(hxs:x.size=26)(hx1:yZ x)(hne:v.ownBlock≠some bu)(hle:l.length<=100000000)(hbase:base<=w.heap.size)(hin:i<l.length)(hcap: ∀A n c,v= .slice A n c->c<n+1):
  Calls Tryz.prog 84 #[v,.int .i64 i,.slice (some ⟨bu,0,none⟩) 1 1] w (OwnR base 132 26 (l.take i++ [x]++l.drop i) w):=by
 obtain⟨g,cap,cur,rfl,hbg,hkc,hnc,hcm,hcs,htake⟩:=xI hown (by omega);have hcap:=hcap _ _ _ rfl;obtain rfl:cap=l.length:=by omega
 have hcm':l.length<=9223372036854775807:=by omega
 have hsz1:=xz hs;have holds: ∀b,some (⟨g,0,none⟩:Addr)=some b-> ∀j u,(yy (l.take i))[j]? =some u->w.cell? (b.add j)=some u:=by
  intro b hb j u hj;injection hb with hb;subst hb;rw[xY,Nat.zero_add,hkc.rules.1];have h2:(yy l)[j]? =some u:=by
   rw[<-vJ hs i hi,List.getElem?_take] at hj;split at hj
   ·exact hj
   ·cases hj
  rw[<-htake,List.getElem?_take] at h2;split at h2
  ·simpa using h2
  ·cases h2
 have hlt:(yy (l.take i)).length=i*26:=by rw[xz (fun r hr=>hs r (List.mem_of_mem_take hr)),List.length_take,Nat.min_eq_left hi]
 have hld:(yy (l.drop i)).length=(l.length-i)*26:=by rw[xz (fun r hr=>hs r (List.mem_of_mem_drop hr)),List.length_drop]
 have hsrc: ∀j u,(yy (l.drop i))[j]? =some u->w.cell? ((⟨g,i*26,none⟩:Addr).add j)=some u:=by
  intro j u hj;rw[xY,hkc.rules.1];rw[<-vV hs i hi,List.getElem?_drop] at hj;rw[<-htake,List.getElem?_take] at hj;split at hj
  ·simpa using hj
  ·cases hj
 have H2:=Lib.hid holds;have H3:=Lib.hid hlt;have H4:=Lib.hid hld;have H5:=Lib.hid hsrc;have H6:=Lib.hid (Zu (l:=l.drop i) (fun r hr=>h1 r (List.mem_of_mem_drop hr)));have HS:=Lib.hid hs;have hne':g≠bu:=by intro e;subst e;exact hne rfl
 have hxr:=hk.rules.1;have H7:Hid (∀j u,x.toList[j]? =some u->w.cell? ((⟨bu,0,none⟩:Addr).add j)=some u):=fun j u hj=>by rw[xY,Nat.zero_add,hxr];simpa using hj
 have H8:Hid (∀u∈x.toList,u.oneCell'=true):=hx1;have HN:=Lib.hid hne';have hi0:((i:Int)==(l.length:Int))=false:=by rw[beq_eq_false_iff_ne];omega
 have hgt:decide ((l.length:Int)<(l.length:Int)+1)=true:=decide_eq_true (by omega);have htn:Tryz.prog.underlying 3=some (.int .i64):=Tryz.underlying3;have hk0:((l.length:Int)+1-i)=((l.length+1-i:Nat):Int):=by omega
 clear holds hlt hld hsrc hown hs h1 htake hsz1 hne hne' hcm hxr hcap;go_enter Tryz.func84,Tryz.ntmps84;go_wp2_with(first|(refine vq gG (by decide) rfl (.tmp 34) (.tmp 39) 3 htn rfl (some ⟨g,0,none⟩) i l.length (l.length+1-i) (yy (l.take i)) rfl (by first|rfl|exact congrArg (Value.int .i64) hk0) (fun h=>by cases h) H3.out H2.out (by omega) (by omega) (by omega) (by omega) ?_;intro W1 c1 C1 hk1 hC1 hn1 hc1 ht1 hb1 hz1)|(refine xf gG rfl (.tmp 43) (.tmp 44) rfl w.heap.size (i*26) C1 132 hk1 _ _ _ _ _ _ 1 rfl rfl (Nat.min_eq_left (by omega)) x.toList (by simp[hxs]) (fun _=>rfl) (fun _=>⟨_,rfl,fun j u hj=>(hb1.cell (p:=(⟨bu,0,none⟩:Addr).add j) (by rw[xY];exact hk.lt)).trans (H7.out j u hj)⟩) (by rw[Array.length_toList,hxs,hC1];omega) H8.out ?_;intro W2 hk2 hb2 hz2 hg2));have HB2:=Lib.hid ((hb1.mono hbase).trans (hb2.mono hbase));have HC2:=Lib.hid (hkc.below (hb1.trans hb2));have hsrc2:Hid (∀j u,(yy (l.drop i))[j]? =some u-> ∀W,Blk W g cur 132->W.cell? ((⟨g,i*26,none⟩:Addr).add j)=some u):=fun j u hj W hW=>by
  have:=H5.out j u hj;rw[xY] at this⊢;rw[hW.rules.1,<-hkc.rules.1];exact this
 clear hk1 hb1 hb2 hg2;go_wp2_with fail;have hw1:IntKind.i64.wrap ((i:Int)+1)=(i:Int)+1:=IntWalk.i64_in _ (by omega);have hw2:(0:Int)<=(i:Int)+1:=by omega
 have hw3:(i:Int)+1<=(i:Int)+((l.length+1-i:Nat):Int):=by omega
 have hw4:((i:Int)+1).toNat=i+1:=by omega
 have hw5:(c1=i+1)=False:=by rw[eq_iff_iff,iff_false];omega
 have hw6:(i:Int)<=(l.length:Int):=by omega
 have hw7:(l.length=i)=False:=by rw[eq_iff_iff,iff_false];omega
 refine qu (s:=8) (n:=9) (fun W=>Blk W w.heap.size (patch C1 (i*26) x.toList.toArray) 132/\Blk W g cur 132/\Below base w W) (by kernel_rfl) rfl ⟨hk2,HC2.out,HB2.out.drew⟩ (fun W hS=> ?_);refine zq [(0,some 46,[4,8]),(1,some 47,[3,4,8]),(2,some 48,[3,4,8]),(3,some 49,[4,8]),(4,some 50,[8]),(5,some 51,[7,8]),(6,some 52,[7,8]),(7,some 53,[8])] [?v3_0,?v3_1,?v3_2,?v3_3,?v3_4,?v3_5,?v3_6,?v3_7] 1 (by kernel_rfl) hS ?l3 ?h3;case l3=>
  intro w' hSw;refine zu rfl rfl (by rfl) ?_ ?_
  ·go_simp
   try(with_reducible rfl)
  try simp only[Act.put,tS,t0,t1]
  refine zu rfl rfl (by rfl) ?_ ?_
  ·go_simp
   try(with_reducible rfl)
  try simp only[Act.put,tS,t0,t1]
  refine zu rfl rfl (by rfl) ?_ ?_
  ·go_simp
   try(with_reducible rfl)
  try simp only[Act.put,tS,t0,t1]
  refine zu rfl rfl (by rfl) ?_ ?_
  ·go_simp
   try(with_reducible rfl)
  try simp only[Act.put,tS,t0,t1]
  refine zu rfl rfl (by rfl) ?_ ?_
  ·go_simp
   try(with_reducible rfl)
  try simp only[Act.put,tS,t0,t1]
  refine zu rfl rfl (by rfl) ?_ ?_
  ·go_simp
   try(with_reducible rfl)
  try simp only[Act.put,tS,t0,t1]
  refine zu rfl rfl (by rfl) ?_ ?_
  ·go_simp
   try(with_reducible rfl)
  try simp only[Act.put,tS,t0,t1]
  refine zu rfl rfl (by rfl) ?_ ?_
  ·go_simp
   try(with_reducible rfl)
  try simp only[Act.put,tS,t0,t1]
  trivial
 simp only[zw,zk,Act.put,tS,t0,t1];refine vp (i:=8) (fuel:=0) (by kernel_rfl) rfl ?_;refine xf gG rfl (.tmp 50) (.tmp 53) rfl w.heap.size ((i+1)*26) _ 132 hS.1 _ _ _ _ _ _ (l.length-i) rfl rfl (Nat.min_eq_left (by omega)) (yy (l.drop i)) H4.out (fun _=>by first|rfl|simp) (fun _=>⟨_,rfl,fun j u hj=>hsrc2.out j u hj W hS.2.1⟩) (by rw[H4.out,yd _ _ _ (by simp[hxs];omega),hC1];omega) H6.out ?_;intro W4 hk4 hb4 hz4 hg4;have hB4:=hS.2.2.trans (hb4.mono hbase);refine wpList_nil ?_;refine zd (zJ rfl) ?_;refine zv (by kernel_rfl) ?_ _;go_wp2_with fail
 go_ret
 refine⟨_,rfl,?_,hB4⟩;have hlen:(l.take i++ [x]++l.drop i).length=i+(l.length+1-i):=by simp;omega
 have hxl:x.toList.toArray=x:=by simp
 have hdl:(yy (l.drop i)).toArray.size=(l.length-i)*26:=by simp[H4.out]
 rw[hlen];refine⟨?_,.inr ⟨w.heap.size,c1,_,rfl,hbase,hk4,by omega,hc1,?_,?_⟩⟩
 ·rw[xz (size:=26),hlen]
  intro r hr;simp only[List.mem_append,List.mem_singleton] at hr;rcases hr with(hr|rfl)|hr
  ·exact HS.out r (List.mem_of_mem_take hr)
  ·exact hxs
  ·exact HS.out r (List.mem_of_mem_drop hr)
 ·rw[yd,yd]
  ·exact hC1
  ·rw[hxl,hxs,hC1];omega
  ·rw[yd,hdl,hC1]
   ·omega
   ·rw[hxl,hxs,hC1];omega
 ·have htp:=(vf C1 x (yy (l.drop i)).toArray (i*26) (by rw[hxs,hdl,hC1];omega)).2
  have e1:i*26+x.size=(i+1)*26:=by rw[hxs];omega
  have e2:i*26+x.size+(yy (l.drop i)).toArray.size=(i+(l.length+1-i))*26:=by rw[hxs,hdl];omega
  rw[e2,e1] at htp;rw[hxl,htp,ht1,xG,xG];simp[yy]
theorem insProc_shift(base:Nat)(v:Value)(l:List (Array Value))(i:Nat)(bu:Nat)(x:Array Value)(w:World)(hown:w.ownsRow base 132 26 v l.length (yy l))(hs: ∀r∈l,r.size=26)(h1: ∀r∈l,yZ r)(hi:i<=l.length)(hk:Blk w bu x 132)(hxs:x.size=26)(hx1:yZ x)(hne:v.ownBlock≠some bu)(hle:l.length<=100000000)(_hbase:base<=w.heap.size)(hin:i<l.length)(hcap: ∀A n c,v= .slice A n c->n+1<=c):
  Calls Tryz.prog 84 #[v,.int .i64 i,.slice (some ⟨bu,0,none⟩) 1 1] w (OwnR base 132 26 (l.take i++ [x]++l.drop i) w):=by
 obtain⟨g,cap,cur,rfl,hbg,hkc,hnc,hcm,hcs,htake⟩:=xI hown (by omega);have hcp:=hcap _ _ _ rfl;have hcm':cap<=9223372036854775807:=hcm;have hlt:(yy (l.take i)).length=i*26:=by rw[xz (fun r hr=>hs r (List.mem_of_mem_take hr)),List.length_take,Nat.min_eq_left hi]
 have hld:(yy (l.drop i)).length=(l.length-i)*26:=by rw[xz (fun r hr=>hs r (List.mem_of_mem_drop hr)),List.length_drop]
 have hsrc: ∀j u,(yy (l.drop i))[j]? =some u-> ∀W,Blk W g cur 132->W.cell? ((⟨g,i*26,none⟩:Addr).add j)=some u:=by
  intro j u hj W hW;rw[xY,hW.rules.1];rw[<-vV hs i hi,List.getElem?_drop] at hj;rw[<-htake,List.getElem?_take] at hj;split at hj
  ·simpa using hj
  ·cases hj
 have H3:=Lib.hid hlt;have H4:=Lib.hid hld;have H5:=Lib.hid hsrc;have H6:=Lib.hid (Zu (l:=l.drop i) (fun r hr=>h1 r (List.mem_of_mem_drop hr)));have HS:=Lib.hid hs;have HT:=Lib.hid htake;have hne':g≠bu:=by intro e;subst e;exact hne rfl
 have hnes:some bu≠some g:=by intro e;injection e with e;exact hne' e.symm
 have hne2:bu≠g:=fun e=>hne' e.symm;have HNS:=Lib.hid hnes;have H8:Hid (∀u∈x.toList,u.oneCell'=true):=hx1;have hi0:((i:Int)==(l.length:Int))=false:=by rw[beq_eq_false_iff_ne];omega
 have hcx:0<cur.size:=by rw[hcs];omega
 obtain⟨cx,hcx⟩: ∃cx,cur.size=cx+1:=⟨cur.size-1,by omega⟩;have hov:(callFunc 111 #[.slice (some ⟨bu,0,none⟩) 1 1,.slice (some ⟨g,(i+1)*26,none⟩) (l.length-i) (cap-(i+1))]).run Tryz.prog w= .ok (.value (.bool false)) w:=by
  rw[run_callFunc_extern Tryz.func111 (by kernel_rfl) (by kernel_rfl) (by kernel_rfl) (e:=Extern.SlicesOverlaps.overlaps #[42,42] #[4]) (by kernel_rfl),
   Lib.run_overlaps_apart w 42 4 132 Tryz.underlying42 26 Tryz.sizeOf132 ⟨bu,0,none⟩ ⟨g,(i+1)*26,none⟩ 1 1 (l.length-i) (cap-(i+1)) hne2 132 132 x.size (cx+1) (gm hk) (by rw[<-hcx];exact gm hkc) (by omega) (hk.rules.2 0) (hk.rules.2 x.size)]
  rfl
 have hw1:IntKind.i64.wrap ((i:Int)+1)=(i:Int)+1:=IntWalk.i64_in _ (by omega);have hw2:(0:Int)<=(i:Int)+1:=by omega
 have hw3:(i:Int)+1<=((l.length:Int)+1):=by omega
 have hw4:((i:Int)+1).toNat=i+1:=by omega
 have hw5:(cap=i+1)=False:=by rw[eq_iff_iff,iff_false];omega
 have hw6:(i:Int)<=(l.length:Int)+1:=by omega
 have hw7:(cap=i)=False:=by rw[eq_iff_iff,iff_false];omega
 have hw8:l.length+1-(i+1)=l.length-i:=by omega
 have hw9:((l.length:Int)+1).toNat=l.length+1:=by omega
 have hw10:decide ((cap:Int)<(l.length:Int)+1)=false:=decide_eq_false (by omega);clear hsrc hown hs h1 htake hlt hld hne hne' hnes hne2 hcm hcap hcx;go_enter Tryz.func84,Tryz.ntmps84;go_wp2_with fail;refine qu (s:=8) (n:=9) (fun W=>Blk W g cur 132/\Blk W bu x 132/\Below base w W) (by kernel_rfl) rfl ⟨hkc,hk,(Below.refl _ _).drew⟩ (fun W hS=> ?_);refine zq [(0,some 69,[4,8]),(1,some 70,[3,4,8]),(2,some 71,[3,4,8]),(3,some 72,[4,8]),(4,some 73,[8]),(5,some 74,[7,8]),(6,some 75,[7,8]),(7,some 76,[8])] [?v4_0,?v4_1,?v4_2,?v4_3,?v4_4,?v4_5,?v4_6,?v4_7] 1 (by kernel_rfl) hS ?l4 ?h4;case l4=>
  intro w' hSw;refine zu rfl rfl (by rfl) ?_ ?_
  ·go_simp
   try(with_reducible rfl)
  try simp only[Act.put,tS,t0,t1]
  refine zu rfl rfl (by rfl) ?_ ?_
  ·go_simp
   try(with_reducible rfl)
  try simp only[Act.put,tS,t0,t1]
  refine zu rfl rfl (by rfl) ?_ ?_
  ·go_simp
   try(with_reducible rfl)
  try simp only[Act.put,tS,t0,t1]
  refine zu rfl rfl (by rfl) ?_ ?_
  ·go_simp
   try(with_reducible rfl)
  try simp only[Act.put,tS,t0,t1]
  refine zu rfl rfl (by rfl) ?_ ?_
  ·go_simp
   try(with_reducible rfl)
  try simp only[Act.put,tS,t0,t1]
  refine zu rfl rfl (by rfl) ?_ ?_
  ·go_simp
   try(with_reducible rfl)
  try simp only[Act.put,tS,t0,t1]
  refine zu rfl rfl (by rfl) ?_ ?_
  ·go_simp
   try(with_reducible rfl)
  try simp only[Act.put,tS,t0,t1]
  refine zu rfl rfl (by rfl) ?_ ?_
  ·go_simp
   try(with_reducible rfl)
  try simp only[Act.put,tS,t0,t1]
  trivial
 simp only[zw,zk,Act.put,tS,t0,t1];refine vp (i:=8) (fuel:=0) (by kernel_rfl) rfl ?_;refine xf gG rfl (.tmp 73) (.tmp 76) rfl g ((i+1)*26) cur 132 hS.1 _ _ _ _ _ _ (l.length-i) rfl rfl (Nat.min_eq_right (by omega)) (yy (l.drop i)) H4.out (fun _=>by first|rfl|simp) (fun _=>⟨_,rfl,fun j u hj=>H5.out j u hj W hS.1⟩) (by rw[H4.out,hcs];omega) H6.out ?_;intro W3 hk3 hb3 hz3 hg3;have hB3:=Lib.hid (hS.2.2.trans (hb3.mono hbg));have hu3:Hid (Blk W3 bu x 132):=show Blk W3 bu x 132 from(hg3.block bu hS.2.1.lt HNS.out).trans hS.2.1;clear hb3 hg3 hS;refine wpList_nil ?_;refine zd (zJ rfl) ?_;refine zv (by kernel_rfl) ?_ _;obtain⟨HK3⟩:Nonempty (Hid (Blk W3 g (patch cur ((i+1)*26) (yy (l.drop i)).toArray) 132)):=⟨hk3⟩;clear hk3 hov hkc hk;go_wp2_with(refine xf gG rfl (.tmp 80) (.tmp 81) rfl g (i*26) _ 132 HK3.out _ _ _ _ _ _ 1 rfl rfl (Nat.min_eq_left (by omega)) x.toList (by simp[hxs]) (fun _=>rfl) (fun _=>⟨_,rfl,fun j u hj=>by rw[xY,Nat.zero_add,hu3.out.rules.1];simpa using hj⟩) (by rw[Array.length_toList,hxs,yd _ _ _ (by simp[H4.out,hcs];omega),hcs];omega) H8.out ?_;intro W4 hk4 hb4 hz4 hg4)
 go_ret
 refine⟨_,rfl,?_,hB3.out.trans (hb4.mono hbg)⟩;have hlen:(l.take i++ [x]++l.drop i).length=l.length+1:=by simp;omega
 have hxl:x.toList.toArray=x:=by simp
 have hdl:(yy (l.drop i)).toArray.size=(l.length-i)*26:=by simp[H4.out]
 rw[hlen];refine⟨?_,.inr ⟨g,cap,_,rfl,hbg,hk4,by omega,hcm',?_,?_⟩⟩
 ·rw[xz (size:=26),hlen]
  intro r hr;simp only[List.mem_append,List.mem_singleton] at hr;rcases hr with(hr|rfl)|hr
  ·exact HS.out r (List.mem_of_mem_take hr)
  ·exact hxs
  ·exact HS.out r (List.mem_of_mem_drop hr)
 ·rw[yd,yd]
  ·exact hcs
  ·rw[hdl,hcs];omega
  ·rw[yd,hxl,hxs,hcs]
   ·omega
   ·rw[hdl,hcs];omega
 ·have htp:=(vf cur x (yy (l.drop i)).toArray (i*26) (by rw[hxs,hdl,hcs];omega)).1
  have e1:i*26+x.size=(i+1)*26:=by rw[hxs];omega
  have e2:i*26+x.size+(yy (l.drop i)).toArray.size=(l.length+1)*26:=by rw[hxs,hdl];omega
  have e3:cur.toList.take (i*26)=yy (l.take i):=by
   rw[<-vJ HS.out i hi,<-HT.out,List.take_take,Nat.min_eq_left (by omega)]
  rw[e2,e1] at htp;rw[hxl,htp,e3,xG,xG];simp[yy]
theorem insProc_any(base:Nat)(v:Value)(l:List (Array Value))(i:Nat)(bu:Nat)(x:Array Value)(w:World)(hown:w.ownsRow base 132 26 v l.length (yy l))(hs: ∀r∈l,r.size=26)(h1: ∀r∈l,yZ r)(hi:i<=l.length)(hk:Blk w bu x 132)(hxs:x.size=26)(hx1:yZ x)(hne:v.ownBlock≠some bu)(hle:l.length<=100000000)(hbase:base<=w.heap.size):
  Calls Tryz.prog 84 #[v,.int .i64 i,.slice (some ⟨bu,0,none⟩) 1 1] w (OwnR base 132 26 (l.take i++ [x]++l.drop i) w):=by
 by_cases hin:i=l.length
 ·exact insProc_end base v l i bu x w hown hs h1 hi hk hxs hx1 hne hle hbase hin
 ·obtain⟨g,cap,cur,rfl,_⟩:=xI hown (by omega)
  by_cases hcap:l.length+1<=cap
  ·exact insProc_shift base _ l i bu x w hown hs h1 hi hk hxs hx1 hne hle hbase (by omega) (fun A n c e=>by injection e with _ e1 e2;omega)
  ·exact insProc_grow base _ l i bu x w hown hs h1 hi hk hxs hx1 hne hle hbase (by omega) (fun A n c e=>by injection e with _ e1 e2;omega)
theorem insAlarm_end(base:Nat)(v:Value)(l:List (Array Value))(i:Nat)(bu:Nat)(x:Array Value)(w:World)(hown:w.ownsRow base 219 2 v l.length (yy l))(hs: ∀r∈l,r.size=2)(h1: ∀r∈l,yZ r)(hi:i<=l.length)(hk:Blk w bu x 219)(hxs:x.size=2)(hx1:yZ x)(hne:v.ownBlock≠some bu)(hle:l.length<=100000000)(hbase:base<=w.heap.size)(hin:i=l.length):
  Calls Tryz.prog 159 #[v,.int .i64 i,.slice (some ⟨bu,0,none⟩) 1 1] w (OwnR base 219 2 (l.take i++ [x]++l.drop i) w):=by
 subst hin;obtain⟨A,c,rfl,hA⟩:=yb hown;have hlen:l.length<=9223372036854775807:=by omega
 have hcap:l.length<=c:=(RdC.of_own hown).2.1;have HO:=Lib.hid hown;have HS:=Lib.hid hs;have H1:=Lib.hid h1;clear hown hs h1 hA;have HF:Hid (l.take l.length++ [x]++l.drop l.length=l++ [x]):=show _=_ by simp
 rw[HF.out];clear HF;have hsl:=Lib.hid (qU hk hxs (Nat.le_refl 1) (by unfold maxLen;omega));go_enter Tryz.func159,Tryz.ntmps159;go_wp2_with(refine yO vg (by decide) rfl (.tmp 23) (.tmp 24) rfl base _ l rfl HO.out (fun _=>False) _ [x] rfl hsl.out (by simpa using hx1) (by simp;omega) (by omega) hbase ?_;intro v' w' hown' hb' _ _ _);all_goals
  go_ret
  exact⟨v',rfl,hown',hb'⟩
theorem insAlarm_grow(base:Nat)(v:Value)(l:List (Array Value))(i:Nat)(bu:Nat)(x:Array Value)(w:World)(hown:w.ownsRow base 219 2 v l.length (yy l))(hs: ∀r∈l,r.size=2)(h1: ∀r∈l,yZ r)(hi:i<=l.length)(hk:Blk w bu x 219)(hxs:x.size=2)(hx1:yZ x)(hne:v.ownBlock≠some bu)(hle:l.length<=100000000)(hbase:base<=w.heap.size)(hin:i<l.length)(hcap: ∀A n c,v= .slice A n c->c<n+1):
  Calls Tryz.prog 159 #[v,.int .i64 i,.slice (some ⟨bu,0,none⟩) 1 1] w (OwnR base 219 2 (l.take i++ [x]++l.drop i) w):=by
 obtain⟨g,cap,cur,rfl,hbg,hkc,hnc,hcm,hcs,htake⟩:=xI hown (by omega);have hcap:=hcap _ _ _ rfl;obtain rfl:cap=l.length:=by omega
 have hcm':l.length<=9223372036854775807:=by omega
 have hsz1:=xz hs;have holds: ∀b,some (⟨g,0,none⟩:Addr)=some b-> ∀j u,(yy (l.take i))[j]? =some u->w.cell? (b.add j)=some u:=by
  intro b hb j u hj;injection hb with hb;subst hb;rw[xY,Nat.zero_add,hkc.rules.1];have h2:(yy l)[j]? =some u:=by
   rw[<-vJ hs i hi,List.getElem?_take] at hj;split at hj
   ·exact hj
   ·cases hj
  rw[<-htake,List.getElem?_take] at h2;split at h2
  ·simpa using h2
  ·cases h2
 have hlt:(yy (l.take i)).length=i*2:=by rw[xz (fun r hr=>hs r (List.mem_of_mem_take hr)),List.length_take,Nat.min_eq_left hi]
 have hld:(yy (l.drop i)).length=(l.length-i)*2:=by rw[xz (fun r hr=>hs r (List.mem_of_mem_drop hr)),List.length_drop]
 have hsrc: ∀j u,(yy (l.drop i))[j]? =some u->w.cell? ((⟨g,i*2,none⟩:Addr).add j)=some u:=by
  intro j u hj;rw[xY,hkc.rules.1];rw[<-vV hs i hi,List.getElem?_drop] at hj;rw[<-htake,List.getElem?_take] at hj;split at hj
  ·simpa using hj
  ·cases hj
 have H2:=Lib.hid holds;have H3:=Lib.hid hlt;have H4:=Lib.hid hld;have H5:=Lib.hid hsrc;have H6:=Lib.hid (Zu (l:=l.drop i) (fun r hr=>h1 r (List.mem_of_mem_drop hr)));have HS:=Lib.hid hs;have hne':g≠bu:=by intro e;subst e;exact hne rfl
 have hxr:=hk.rules.1;have H7:Hid (∀j u,x.toList[j]? =some u->w.cell? ((⟨bu,0,none⟩:Addr).add j)=some u):=fun j u hj=>by rw[xY,Nat.zero_add,hxr];simpa using hj
 have H8:Hid (∀u∈x.toList,u.oneCell'=true):=hx1;have HN:=Lib.hid hne';have hi0:((i:Int)==(l.length:Int))=false:=by rw[beq_eq_false_iff_ne];omega
 have hgt:decide ((l.length:Int)<(l.length:Int)+1)=true:=decide_eq_true (by omega);have htn:Tryz.prog.underlying 3=some (.int .i64):=Tryz.underlying3;have hk0:((l.length:Int)+1-i)=((l.length+1-i:Nat):Int):=by omega
 clear holds hlt hld hsrc hown hs h1 htake hsz1 hne hne' hcm hxr hcap;go_enter Tryz.func159,Tryz.ntmps159;go_wp2_with(first|(refine vq vg (by decide) rfl (.tmp 34) (.tmp 39) 3 htn rfl (some ⟨g,0,none⟩) i l.length (l.length+1-i) (yy (l.take i)) rfl (by first|rfl|exact congrArg (Value.int .i64) hk0) (fun h=>by cases h) H3.out H2.out (by omega) (by omega) (by omega) (by omega) ?_;intro W1 c1 C1 hk1 hC1 hn1 hc1 ht1 hb1 hz1)|(refine xf vg rfl (.tmp 43) (.tmp 44) rfl w.heap.size (i*2) C1 219 hk1 _ _ _ _ _ _ 1 rfl rfl (Nat.min_eq_left (by omega)) x.toList (by simp[hxs]) (fun _=>rfl) (fun _=>⟨_,rfl,fun j u hj=>(hb1.cell (p:=(⟨bu,0,none⟩:Addr).add j) (by rw[xY];exact hk.lt)).trans (H7.out j u hj)⟩) (by rw[Array.length_toList,hxs,hC1];omega) H8.out ?_;intro W2 hk2 hb2 hz2 hg2));have HB2:=Lib.hid ((hb1.mono hbase).trans (hb2.mono hbase));have HC2:=Lib.hid (hkc.below (hb1.trans hb2));have hsrc2:Hid (∀j u,(yy (l.drop i))[j]? =some u-> ∀W,Blk W g cur 219->W.cell? ((⟨g,i*2,none⟩:Addr).add j)=some u):=fun j u hj W hW=>by
  have:=H5.out j u hj;rw[xY] at this⊢;rw[hW.rules.1,<-hkc.rules.1];exact this
 clear hk1 hb1 hb2 hg2;go_wp2_with fail;have hw1:IntKind.i64.wrap ((i:Int)+1)=(i:Int)+1:=IntWalk.i64_in _ (by omega);have hw2:(0:Int)<=(i:Int)+1:=by omega
 have hw3:(i:Int)+1<=(i:Int)+((l.length+1-i:Nat):Int):=by omega
 have hw4:((i:Int)+1).toNat=i+1:=by omega
 have hw5:(c1=i+1)=False:=by rw[eq_iff_iff,iff_false];omega
 have hw6:(i:Int)<=(l.length:Int):=by omega
 have hw7:(l.length=i)=False:=by rw[eq_iff_iff,iff_false];omega
 refine qu (s:=8) (n:=9) (fun W=>Blk W w.heap.size (patch C1 (i*2) x.toList.toArray) 219/\Blk W g cur 219/\Below base w W) (by kernel_rfl) rfl ⟨hk2,HC2.out,HB2.out.drew⟩ (fun W hS=> ?_);refine zq [(0,some 46,[4,8]),(1,some 47,[3,4,8]),(2,some 48,[3,4,8]),(3,some 49,[4,8]),(4,some 50,[8]),(5,some 51,[7,8]),(6,some 52,[7,8]),(7,some 53,[8])] [?v5_0,?v5_1,?v5_2,?v5_3,?v5_4,?v5_5,?v5_6,?v5_7] 1 (by kernel_rfl) hS ?l5 ?h5;case l5=>
  intro w' hSw;refine zu rfl rfl (by rfl) ?_ ?_
  ·go_simp
   try(with_reducible rfl)
  try simp only[Act.put,tS,t0,t1]
  refine zu rfl rfl (by rfl) ?_ ?_
  ·go_simp
   try(with_reducible rfl)
  try simp only[Act.put,tS,t0,t1]
  refine zu rfl rfl (by rfl) ?_ ?_
  ·go_simp
   try(with_reducible rfl)
  try simp only[Act.put,tS,t0,t1]
  refine zu rfl rfl (by rfl) ?_ ?_
  ·go_simp
   try(with_reducible rfl)
  try simp only[Act.put,tS,t0,t1]
  refine zu rfl rfl (by rfl) ?_ ?_
  ·go_simp
   try(with_reducible rfl)
  try simp only[Act.put,tS,t0,t1]
  refine zu rfl rfl (by rfl) ?_ ?_
  ·go_simp
   try(with_reducible rfl)
  try simp only[Act.put,tS,t0,t1]
  refine zu rfl rfl (by rfl) ?_ ?_
  ·go_simp
   try(with_reducible rfl)
  try simp only[Act.put,tS,t0,t1]
  refine zu rfl rfl (by rfl) ?_ ?_
  ·go_simp
   try(with_reducible rfl)
  try simp only[Act.put,tS,t0,t1]
  trivial
 simp only[zw,zk,Act.put,tS,t0,t1];refine vp (i:=8) (fuel:=0) (by kernel_rfl) rfl ?_;refine xf vg rfl (.tmp 50) (.tmp 53) rfl w.heap.size ((i+1)*2) _ 219 hS.1 _ _ _ _ _ _ (l.length-i) rfl rfl (Nat.min_eq_left (by omega)) (yy (l.drop i)) H4.out (fun _=>by first|rfl|simp) (fun _=>⟨_,rfl,fun j u hj=>hsrc2.out j u hj W hS.2.1⟩) (by rw[H4.out,yd _ _ _ (by simp[hxs];omega),hC1];omega) H6.out ?_;intro W4 hk4 hb4 hz4 hg4;have hB4:=hS.2.2.trans (hb4.mono hbase);refine wpList_nil ?_;refine zd (zJ rfl) ?_;refine zv (by kernel_rfl) ?_ _;go_wp2_with fail
 go_ret
 refine⟨_,rfl,?_,hB4⟩;have hlen:(l.take i++ [x]++l.drop i).length=i+(l.length+1-i):=by simp;omega
 have hxl:x.toList.toArray=x:=by simp
 have hdl:(yy (l.drop i)).toArray.size=(l.length-i)*2:=by simp[H4.out]
 rw[hlen];refine⟨?_,.inr ⟨w.heap.size,c1,_,rfl,hbase,hk4,by omega,hc1,?_,?_⟩⟩
 ·rw[xz (size:=2),hlen]
  intro r hr;simp only[List.mem_append,List.mem_singleton] at hr;rcases hr with(hr|rfl)|hr
  ·exact HS.out r (List.mem_of_mem_take hr)
  ·exact hxs
  ·exact HS.out r (List.mem_of_mem_drop hr)
 ·rw[yd,yd]
  ·exact hC1
  ·rw[hxl,hxs,hC1];omega
  ·rw[yd,hdl,hC1]
   ·omega
   ·rw[hxl,hxs,hC1];omega
 ·have htp:=(vf C1 x (yy (l.drop i)).toArray (i*2) (by rw[hxs,hdl,hC1];omega)).2
  have e1:i*2+x.size=(i+1)*2:=by rw[hxs];omega
  have e2:i*2+x.size+(yy (l.drop i)).toArray.size=(i+(l.length+1-i))*2:=by rw[hxs,hdl];omega
  rw[e2,e1] at htp;rw[hxl,htp,ht1,xG,xG];simp[yy]
theorem insAlarm_shift(base:Nat)(v:Value)(l:List (Array Value))(i:Nat)(bu:Nat)(x:Array Value)(w:World)(hown:w.ownsRow base 219 2 v l.length (yy l))(hs: ∀r∈l,r.size=2)(h1: ∀r∈l,yZ r)(hi:i<=l.length)(hk:Blk w bu x 219)(hxs:x.size=2)(hx1:yZ x)(hne:v.ownBlock≠some bu)(hle:l.length<=100000000)(_hbase:base<=w.heap.size)(hin:i<l.length)(hcap: ∀A n c,v= .slice A n c->n+1<=c):
  Calls Tryz.prog 159 #[v,.int .i64 i,.slice (some ⟨bu,0,none⟩) 1 1] w (OwnR base 219 2 (l.take i++ [x]++l.drop i) w):=by
 obtain⟨g,cap,cur,rfl,hbg,hkc,hnc,hcm,hcs,htake⟩:=xI hown (by omega);have hcp:=hcap _ _ _ rfl;have hcm':cap<=9223372036854775807:=hcm;have hlt:(yy (l.take i)).length=i*2:=by rw[xz (fun r hr=>hs r (List.mem_of_mem_take hr)),List.length_take,Nat.min_eq_left hi]
 have hld:(yy (l.drop i)).length=(l.length-i)*2:=by rw[xz (fun r hr=>hs r (List.mem_of_mem_drop hr)),List.length_drop]
 have hsrc: ∀j u,(yy (l.drop i))[j]? =some u-> ∀W,Blk W g cur 219->W.cell? ((⟨g,i*2,none⟩:Addr).add j)=some u:=by
  intro j u hj W hW;rw[xY,hW.rules.1];rw[<-vV hs i hi,List.getElem?_drop] at hj;rw[<-htake,List.getElem?_take] at hj;split at hj
  ·simpa using hj
  ·cases hj
 have H3:=Lib.hid hlt;have H4:=Lib.hid hld;have H5:=Lib.hid hsrc;have H6:=Lib.hid (Zu (l:=l.drop i) (fun r hr=>h1 r (List.mem_of_mem_drop hr)));have HS:=Lib.hid hs;have HT:=Lib.hid htake;have hne':g≠bu:=by intro e;subst e;exact hne rfl
 have hnes:some bu≠some g:=by intro e;injection e with e;exact hne' e.symm
 have hne2:bu≠g:=fun e=>hne' e.symm;have HNS:=Lib.hid hnes;have H8:Hid (∀u∈x.toList,u.oneCell'=true):=hx1;have hi0:((i:Int)==(l.length:Int))=false:=by rw[beq_eq_false_iff_ne];omega
 have hcx:0<cur.size:=by rw[hcs];omega
 obtain⟨cx,hcx⟩: ∃cx,cur.size=cx+1:=⟨cur.size-1,by omega⟩;have hov:(callFunc 186 #[.slice (some ⟨bu,0,none⟩) 1 1,.slice (some ⟨g,(i+1)*2,none⟩) (l.length-i) (cap-(i+1))]).run Tryz.prog w= .ok (.value (.bool false)) w:=by
  rw[run_callFunc_extern Tryz.func186 (by kernel_rfl) (by kernel_rfl) (by kernel_rfl) (e:=Extern.SlicesOverlaps.overlaps #[46,46] #[4]) (by kernel_rfl),
   Lib.run_overlaps_apart w 46 4 219 Tryz.underlying46 2 Tryz.sizeOf219 ⟨bu,0,none⟩ ⟨g,(i+1)*2,none⟩ 1 1 (l.length-i) (cap-(i+1)) hne2 219 219 x.size (cx+1) (gm hk) (by rw[<-hcx];exact gm hkc) (by omega) (hk.rules.2 0) (hk.rules.2 x.size)]
  rfl
 have hw1:IntKind.i64.wrap ((i:Int)+1)=(i:Int)+1:=IntWalk.i64_in _ (by omega);have hw2:(0:Int)<=(i:Int)+1:=by omega
 have hw3:(i:Int)+1<=((l.length:Int)+1):=by omega
 have hw4:((i:Int)+1).toNat=i+1:=by omega
 have hw5:(cap=i+1)=False:=by rw[eq_iff_iff,iff_false];omega
 have hw6:(i:Int)<=(l.length:Int)+1:=by omega
 have hw7:(cap=i)=False:=by rw[eq_iff_iff,iff_false];omega
 have hw8:l.length+1-(i+1)=l.length-i:=by omega
 have hw9:((l.length:Int)+1).toNat=l.length+1:=by omega
 have hw10:decide ((cap:Int)<(l.length:Int)+1)=false:=decide_eq_false (by omega);clear hsrc hown hs h1 htake hlt hld hne hne' hnes hne2 hcm hcap hcx;go_enter Tryz.func159,Tryz.ntmps159;go_wp2_with fail;refine qu (s:=8) (n:=9) (fun W=>Blk W g cur 219/\Blk W bu x 219/\Below base w W) (by kernel_rfl) rfl ⟨hkc,hk,(Below.refl _ _).drew⟩ (fun W hS=> ?_);refine zq [(0,some 69,[4,8]),(1,some 70,[3,4,8]),(2,some 71,[3,4,8]),(3,some 72,[4,8]),(4,some 73,[8]),(5,some 74,[7,8]),(6,some 75,[7,8]),(7,some 76,[8])] [?v6_0,?v6_1,?v6_2,?v6_3,?v6_4,?v6_5,?v6_6,?v6_7] 1 (by kernel_rfl) hS ?l6 ?h6;case l6=>
  intro w' hSw;refine zu rfl rfl (by rfl) ?_ ?_
  ·go_simp
   try(with_reducible rfl)
  try simp only[Act.put,tS,t0,t1]
  refine zu rfl rfl (by rfl) ?_ ?_
  ·go_simp
   try(with_reducible rfl)
  try simp only[Act.put,tS,t0,t1]
  refine zu rfl rfl (by rfl) ?_ ?_
  ·go_simp
   try(with_reducible rfl)
  try simp only[Act.put,tS,t0,t1]
  refine zu rfl rfl (by rfl) ?_ ?_
  ·go_simp
   try(with_reducible rfl)
  try simp only[Act.put,tS,t0,t1]
  refine zu rfl rfl (by rfl) ?_ ?_
  ·go_simp
   try(with_reducible rfl)
  try simp only[Act.put,tS,t0,t1]
  refine zu rfl rfl (by rfl) ?_ ?_
  ·go_simp
   try(with_reducible rfl)
  try simp only[Act.put,tS,t0,t1]
  refine zu rfl rfl (by rfl) ?_ ?_
  ·go_simp
   try(with_reducible rfl)
  try simp only[Act.put,tS,t0,t1]
  refine zu rfl rfl (by rfl) ?_ ?_
  ·go_simp
   try(with_reducible rfl)
  try simp only[Act.put,tS,t0,t1]
  trivial
 simp only[zw,zk,Act.put,tS,t0,t1];refine vp (i:=8) (fuel:=0) (by kernel_rfl) rfl ?_;refine xf vg rfl (.tmp 73) (.tmp 76) rfl g ((i+1)*2) cur 219 hS.1 _ _ _ _ _ _ (l.length-i) rfl rfl (Nat.min_eq_right (by omega)) (yy (l.drop i)) H4.out (fun _=>by first|rfl|simp) (fun _=>⟨_,rfl,fun j u hj=>H5.out j u hj W hS.1⟩) (by rw[H4.out,hcs];omega) H6.out ?_;intro W3 hk3 hb3 hz3 hg3;have hB3:=Lib.hid (hS.2.2.trans (hb3.mono hbg));have hu3:Hid (Blk W3 bu x 219):=show Blk W3 bu x 219 from(hg3.block bu hS.2.1.lt HNS.out).trans hS.2.1;clear hb3 hg3 hS;refine wpList_nil ?_;refine zd (zJ rfl) ?_;refine zv (by kernel_rfl) ?_ _;obtain⟨HK3⟩:Nonempty (Hid (Blk W3 g (patch cur ((i+1)*2) (yy (l.drop i)).toArray) 219)):=⟨hk3⟩;clear hk3 hov hkc hk;go_wp2_with(refine xf vg rfl (.tmp 80) (.tmp 81) rfl g (i*2) _ 219 HK3.out _ _ _ _ _ _ 1 rfl rfl (Nat.min_eq_left (by omega)) x.toList (by simp[hxs]) (fun _=>rfl) (fun _=>⟨_,rfl,fun j u hj=>by rw[xY,Nat.zero_add,hu3.out.rules.1];simpa using hj⟩) (by rw[Array.length_toList,hxs,yd _ _ _ (by simp[H4.out,hcs];omega),hcs];omega) H8.out ?_;intro W4 hk4 hb4 hz4 hg4)
 go_ret
 refine⟨_,rfl,?_,hB3.out.trans (hb4.mono hbg)⟩;have hlen:(l.take i++ [x]++l.drop i).length=l.length+1:=by simp;omega
 have hxl:x.toList.toArray=x:=by simp
 have hdl:(yy (l.drop i)).toArray.size=(l.length-i)*2:=by simp[H4.out]
 rw[hlen];refine⟨?_,.inr ⟨g,cap,_,rfl,hbg,hk4,by omega,hcm',?_,?_⟩⟩
 ·rw[xz (size:=2),hlen]
  intro r hr;simp only[List.mem_append,List.mem_singleton] at hr;rcases hr with(hr|rfl)|hr
  ·exact HS.out r (List.mem_of_mem_take hr)
  ·exact hxs
  ·exact HS.out r (List.mem_of_mem_drop hr)
 ·rw[yd,yd]
  ·exact hcs
  ·rw[hdl,hcs];omega
  ·rw[yd,hxl,hxs,hcs]
   ·omega
   ·rw[hdl,hcs];omega
 ·have htp:=(vf cur x (yy (l.drop i)).toArray (i*2) (by rw[hxs,hdl,hcs];omega)).1
  have e1:i*2+x.size=(i+1)*2:=by rw[hxs];omega
  have e2:i*2+x.size+(yy (l.drop i)).toArray.size=(l.length+1)*2:=by rw[hxs,hdl];omega
  have e3:cur.toList.take (i*2)=yy (l.take i):=by
   rw[<-vJ HS.out i hi,<-HT.out,List.take_take,Nat.min_eq_left (by omega)]
  rw[e2,e1] at htp;rw[hxl,htp,e3,xG,xG];simp[yy]
theorem gp(base:Nat)(v:Value)(l:List (Array Value))(i:Nat)(bu:Nat)(x:Array Value)(w:World)(hown:w.ownsRow base 219 2 v l.length (yy l))(hs: ∀r∈l,r.size=2)(h1: ∀r∈l,yZ r)(hi:i<=l.length)(hk:Blk w bu x 219)(hxs:x.size=2)(hx1:yZ x)(hne:v.ownBlock≠some bu)(hle:l.length<=100000000)(hbase:base<=w.heap.size):
  Calls Tryz.prog 159 #[v,.int .i64 i,.slice (some ⟨bu,0,none⟩) 1 1] w (OwnR base 219 2 (l.take i++ [x]++l.drop i) w):=by
 by_cases hin:i=l.length
 ·exact insAlarm_end base v l i bu x w hown hs h1 hi hk hxs hx1 hne hle hbase hin
 ·obtain⟨g,cap,cur,rfl,_⟩:=xI hown (by omega)
  by_cases hcap:l.length+1<=cap
  ·exact insAlarm_shift base _ l i bu x w hown hs h1 hi hk hxs hx1 hne hle hbase (by omega) (fun A n c e=>by injection e with _ e1 e2;omega)
  ·exact insAlarm_grow base _ l i bu x w hown hs h1 hi hk hxs hx1 hne hle hbase (by omega) (fun A n c e=>by injection e with _ e1 e2;omega)
theorem clipStamp_any(A:Option Addr)(n c:Nat)(w:World)(hnc:n<=c):
  Calls Tryz.prog 60 #[.slice A n c] w fun e w'=>e= .returned (.slice A n n)/\w=w':=by
 by_cases h0:n=0
 ·subst h0
  cases A;all_goals
   go_enter Tryz.func60,Tryz.ntmps60;go_wp2_with fail
   go_ret
   exact⟨rfl,rfl⟩
 ·cases A
  all_goals
   go_enter Tryz.func60,Tryz.ntmps60;go_wp2_with fail
   go_ret
   exact⟨rfl,rfl⟩
theorem clipSpan_any(A:Option Addr)(n c:Nat)(w:World)(hnc:n<=c):
  Calls Tryz.prog 106 #[.slice A n c] w fun e w'=>e= .returned (.slice A n n)/\w=w':=by
 by_cases h0:n=0
 ·subst h0
  cases A;all_goals
   go_enter Tryz.func106,Tryz.ntmps106;go_wp2_with fail
   go_ret
   exact⟨rfl,rfl⟩
 ·cases A
  all_goals
   go_enter Tryz.func106,Tryz.ntmps106;go_wp2_with fail
   go_ret
   exact⟨rfl,rfl⟩
theorem clipEvent_any(A:Option Addr)(n c:Nat)(w:World)(hnc:n<=c):
  Calls Tryz.prog 116 #[.slice A n c] w fun e w'=>e= .returned (.slice A n n)/\w=w':=by
 by_cases h0:n=0
 ·subst h0
  cases A;all_goals
   go_enter Tryz.func116,Tryz.ntmps116;go_wp2_with fail
   go_ret
   exact⟨rfl,rfl⟩
 ·cases A
  all_goals
   go_enter Tryz.func116,Tryz.ntmps116;go_wp2_with fail
   go_ret
   exact⟨rfl,rfl⟩
theorem clipOut_any(A:Option Addr)(n c:Nat)(w:World)(hnc:n<=c):
  Calls Tryz.prog 184 #[.slice A n c] w fun e w'=>e= .returned (.slice A n n)/\w=w':=by
 by_cases h0:n=0
 ·subst h0
  cases A;all_goals
   go_enter Tryz.func184,Tryz.ntmps184;go_wp2_with fail
   go_ret
   exact⟨rfl,rfl⟩
 ·cases A
  all_goals
   go_enter Tryz.func184,Tryz.ntmps184;go_wp2_with fail
   go_ret
   exact⟨rfl,rfl⟩
theorem hasWin_any(v:Value)(l:List (Array Value))(fv:Value)(p:Array Value->Bool)(X:Nat->Prop)(w:World)(h:Sl 1 v l X w)(base:Nat)(hbase:base<=w.heap.size)(hp:Pred1 fv l p base w):
  Calls Tryz.prog 26 #[v,fv] w fun e w'=>e= .returned (.bool (decide (0<=jx p l)))/\Below w.heap.size w w':=by
 have H:=Lib.hid h;have HP:=Lib.hid hp;clear h hp;go_enter Tryz.func26,Tryz.ntmps26;go_wp2_with fail;refine(idxWin_any _ _ _ p X _ H.out base hbase HP.out).mono ?_;rintro e w1 ⟨rfl,hb⟩;go_wp2_with fail
 go_ret
 exact⟨rfl,hb⟩
theorem hasPart_any(v:Value)(l:List (Array Value))(fv:Value)(p:Array Value->Bool)(X:Nat->Prop)(w:World)(h:Sl 4 v l X w)(base:Nat)(hbase:base<=w.heap.size)(hp:Zv fv l p base w):
  Calls Tryz.prog 27 #[v,fv] w fun e w'=>e= .returned (.bool (decide (0<=jx p l)))/\Below w.heap.size w w':=by
 have H:=Lib.hid h;have HP:=Lib.hid hp;clear h hp;go_enter Tryz.func27,Tryz.ntmps27;go_wp2_with fail;refine(idxPart_any _ _ _ p X _ H.out base hbase HP.out).mono ?_;rintro e w1 ⟨rfl,hb⟩;go_wp2_with fail
 go_ret
 exact⟨rfl,hb⟩
theorem hasChan_any(v:Value)(l:List (Array Value))(fv:Value)(p:Array Value->Bool)(X:Nat->Prop)(w:World)(h:Sl 5 v l X w)(base:Nat)(hbase:base<=w.heap.size)(hp:Zv fv l p base w):
  Calls Tryz.prog 31 #[v,fv] w fun e w'=>e= .returned (.bool (decide (0<=jx p l)))/\Below w.heap.size w w':=by
 have H:=Lib.hid h;have HP:=Lib.hid hp;clear h hp;go_enter Tryz.func31,Tryz.ntmps31;go_wp2_with fail;refine(idxChan_any _ _ _ p X _ H.out base hbase HP.out).mono ?_;rintro e w1 ⟨rfl,hb⟩;go_wp2_with fail
 go_ret
 exact⟨rfl,hb⟩
theorem hasInt_any(v:Value)(l:List (Array Value))(fv:Value)(p:Array Value->Bool)(X:Nat->Prop)(w:World)(h:Sl 1 v l X w)(base:Nat)(hbase:base<=w.heap.size)(hp:Pred1 fv l p base w):
  Calls Tryz.prog 47 #[v,fv] w fun e w'=>e= .returned (.bool (decide (0<=jx p l)))/\Below w.heap.size w w':=by
 have H:=Lib.hid h;have HP:=Lib.hid hp;clear h hp;go_enter Tryz.func47,Tryz.ntmps47;go_wp2_with fail;refine(idxInt_any _ _ _ p X _ H.out base hbase HP.out).mono ?_;rintro e w1 ⟨rfl,hb⟩;go_wp2_with fail
 go_ret
 exact⟨rfl,hb⟩
theorem idxOf_any(p:Array Value->Bool)(l:List (Array Value)):decide (0<=jx p l)=l.any p:=by
 unfold jx;cases h:l.findIdx? p with
 |none=>
  rw[List.findIdx?_eq_none_iff] at h;have:l.any p=false:=by rw[List.any_eq_false];intro x hx;simp[h x hx]
  simp[this]
 |some i=>
  rw[List.findIdx?_eq_some_iff_getElem] at h;obtain⟨hi,hp,_⟩:=h;have:l.any p=true:=List.any_eq_true.2 ⟨l[i],List.getElem_mem hi,hp⟩;rw[this];simp
def IntR(r:Array Value):Prop:= ∃x:Int,r= #[.int .i64 x]
theorem indexInt_any(v:Value)(l:List (Array Value))(x:Int)(X:Nat->Prop)(w:World)(h:Sl 1 v l X w)(hr: ∀r∈l,IntR r):
  Calls Tryz.prog 113 #[v,.int .i64 x] w fun e w'=>(∃y:Int,e= .returned (.int .i64 y))/\w=w':=by
 obtain⟨A,c,rfl,hlc,hcm⟩:=h.len;unfold maxLen at hcm;have hlm:l.length<=9223372036854775807:=Nat.le_trans hlc hcm;have H:=Lib.hid h;have HR:=Lib.hid hr;clear h hr;go_enter Tryz.func113,Tryz.ntmps113;go_wp2_with fail
 go_loop [8] (fun i=> ∃k:Nat,k<=l.length/\i= .int .i64 k) (fun i=>l.length-(intOf i).toNat)
 case atStart=>exact⟨0,Nat.zero_le _,rfl⟩
 case round=>
  obtain⟨k,hk,rfl⟩:=hrel;by_cases hlt:k<l.length
  ·obtain⟨r,hr⟩: ∃r,l[k]? =some r:=⟨l[k],List.getElem?_eq_getElem hlt⟩
   obtain⟨y,rfl⟩:=HR.out r (List.mem_of_getElem? hr);obtain⟨b,o,rfl,hbs,_,hrs,hc⟩:=H.out.row hr (by decide);have h0:=hc 0 _ rfl;simp only[Nat.mul_one,Nat.add_zero] at h0;clear hc hr;by_cases hxy:x=y
   ·subst hxy
    go_wp2_with fail
    go_ret
    exact⟨⟨_,rfl⟩,rfl⟩
   ·have hxy:(x==y)=false:=by rw[beq_eq_false_iff_ne];exact hxy
    go_wp2_with fail
    go_round
    case rel=>exact⟨k+1,by omega,by go_num⟩
    case measure=>simp[intOf];omega
  ·obtain rfl:k=l.length:=by omega
   go_wp2_with fail
   go_ret
   exact⟨⟨_,rfl⟩,rfl⟩
theorem containsInt_any(v:Value)(l:List (Array Value))(x:Int)(X:Nat->Prop)(w:World)(h:Sl 1 v l X w)(hr: ∀r∈l,IntR r):
  Calls Tryz.prog 85 #[v,.int .i64 x] w fun e w'=>(∃b:Bool,e= .returned (.bool b))/\w=w':=by
 have H:=Lib.hid h;have HR:=Lib.hid hr;clear h hr;go_enter Tryz.func85,Tryz.ntmps85;go_wp2_with fail;refine(indexInt_any _ _ _ X _ H.out HR.out).mono ?_;rintro e w1 ⟨⟨y,rfl⟩,rfl⟩;go_wp2_with fail
 go_ret
 exact⟨⟨_,rfl⟩,rfl⟩
theorem foldl_sets(l:List Value): ∀(k off:Nat) (D:Array Value),((l.zipIdx k).foldl (fun cs x=>cs.setIfInBounds (off+x.2) x.1) D).size=D.size/\
  ∀i,((l.zipIdx k).foldl (fun cs x=>cs.setIfInBounds (off+x.2) x.1) D)[i]? =if off+k<=i/\i<off+k+l.length/\i<D.size then l[i-(off+k)]? else D[i]? :=by
 induction l with
 |nil=>intro k off D;refine⟨rfl,fun i=> ?_⟩;simp;omega
 |cons v l ih=>
  intro k off D;simp only[List.zipIdx_cons,List.foldl_cons];obtain⟨h1,h2⟩:=ih (k+1) off (D.setIfInBounds (off+k) v);refine⟨by simpa using h1,fun i=> ?_⟩;rw[h2 i];simp only[Array.size_setIfInBounds,List.length_cons];by_cases e:i=off+k
  ·subst e
   by_cases hs:off+k<D.size
   ·rw[if_neg (by omega),if_pos (by omega),Array.getElem?_setIfInBounds_self_of_lt hs]
    simp
   ·rw[if_neg (by omega),if_neg (by omega)]
    simp[hs]
  ·by_cases hin:off+(k+1)<=i/\i<off+(k+1)+l.length/\i<D.size
   ·rw[if_pos hin,if_pos (by omega)]
    have e2:i-(off+k)=i-(off+(k+1))+1:=by omega
    rw[e2,List.getElem?_cons_succ]
   ·rw[if_neg hin,if_neg (by omega),Array.getElem?_setIfInBounds_ne (by omega)]
theorem foldl_all(C D:Array Value)(h:D.size=C.size):C.zipIdx.foldl (fun cs (x:Value×Nat)=>cs.setIfInBounds (0+x.2) x.1) D=C:=by
 obtain⟨h1,h2⟩:=foldl_sets C.toList 0 0 D;have e:C.zipIdx.foldl (fun cs (x:Value×Nat)=>cs.setIfInBounds (0+x.2) x.1) D=(C.toList.zipIdx 0).foldl (fun cs x=>cs.setIfInBounds (0+x.2) x.1) D:=by
  rw[<-Array.foldl_toList,Array.toList_zipIdx]
 rw[e];apply Array.ext_getElem?;intro i;rw[h2 i];by_cases hi:i<C.size
 ·rw[if_pos (by simp;omega)];simp
 ·rw[if_neg (by simp;omega),Array.getElem?_eq_none (by omega),Array.getElem?_eq_none (by omega)]
section
variable{P:Program}{ops:Array Oper}{rest:List Oper}{o:Oper}{a:Act}{Q:Exit->Act->World->Prop}{w:World}
theorem yf(hgd:o.guard=none)(T:TypeId)(s:Operand)(ho:o.op= .box T s)(v:Value)(hs:a.eval s=v)(C:Array Value)(hv:v.cells=C)
  (h: ∀w',Blk w' w.heap.size C T->Below w.heap.size w w'->w'.heap.size=w.heap.size+1->wpList P ops Q rest (a.put o.dst (.pointer (some ⟨w.heap.size,0,none⟩))) w'):wpList P ops Q (o::rest) a w:=by
 subst hv;refine wpList_plain hgd fun K hK=> ?_;unfold Oper.wp execOp;simp only[ho,hs,Sem.run_bind,run_box,Result.andThen_ok,Sem.run_pure];exact hK _ _ (h _ (Zj w _ _) (xw w _) (by simp))
theorem run_rowOf{e t size bytes:Nat}(E:ElT e t size bytes)(v:Value)(C:Array Value)(hv:v.cells=C)(hC:C.size=size)(hsz:0<size)(hsz2:size<=100):
  (Instr.buildSlice t 1 #[(0,v)]).run Tryz.prog w= .ok (.slice (some ⟨w.heap.size,0,none⟩) 1 1) (w.alloc (.cells C e)):=by
 obtain⟨ht,f,z,hf,hz,hs1,hb1,hzs,hone⟩:=E;subst hv;have hD:((Array.range (1*size)).map fun i=>z.cells[i% z.cells.size]!).size=size:=by simp
 generalize hDD:((Array.range (1*size)).map fun i=>z.cells[i% z.cells.size]!)=D at hD;have hfill:Instr.fill (fun i=>some (i*size,size)) D [(0,v)]=some v.cells:=by
  have hb:(decide (v.cells.size≠size)||decide (0*size+v.cells.size>D.size))=false:=by
   simp[hC,hD]
  simp only[Instr.fill,Nat.zero_mul] at hb⊢;rw[hb];exact congrArg some (foldl_all _ _ (by rw[hC,hD]))
 have h0: ¬(1*size=0):=by omega
 have hle: ¬(2^24<1*size):=by omega
 unfold Instr.buildSlice;have hzv:(zeroValue e).run Tryz.prog w= .ok z w:=by simp[zeroValue,typeInfo,hf,hz]
 have hso:(sizeOf e).run Tryz.prog w= .ok size w:=by simp[sizeOf,typeInfo,hf,hs1]
 simp only[run_underlying ht,Sem.run_bind,Result.andThen_ok,hso,gt_iff_lt,if_neg hle,if_neg h0,hzv,Sem.run_pure,hDD,hfill];simp[go_sem]
theorem yj{fn:Func}{p:Tmp}{ty:TypeId}{ad:Addr}{v:Value}(h:fn.results= #[.cell p ty])(tmps:Array Value)(hp:tmps.getD p undef= .pointer (some ad))(hl:(loadVar ty ad).run P w= .ok v w):
  (results fn tmps).run P w= .ok v w:=by
 have hp':tmps[p]?.getD undef= .pointer (some ad):=by simpa using hp
 simp[results,h,hp',asAddr,hl]
theorem yh{fn:Func}{p t:Tmp}{ty:TypeId}{ad:Addr}{v u:Value}(h:fn.results= #[.cell p ty,.tmp t])(tmps:Array Value)(hp:tmps.getD p undef= .pointer (some ad))(ht:tmps.getD t undef=u)(hl:(loadVar ty ad).run P w= .ok v w):
  (results fn tmps).run P w= .ok (.tuple #[v,u]) w:=by
 have hp':tmps[p]?.getD undef= .pointer (some ad):=by simpa using hp
 have ht':tmps[t]?.getD undef=u:=by simpa using ht
 simp[results,h,hp',ht',asAddr,hl]
theorem yg{fn:Func}{p t s:Tmp}{ty:TypeId}{ad:Addr}{v u x:Value}(h:fn.results= #[.cell p ty,.tmp t,.tmp s])(tmps:Array Value)(hp:tmps.getD p undef= .pointer (some ad))(ht:tmps.getD t undef=u)(hs:tmps.getD s undef=x)(hl:(loadVar ty ad).run P w= .ok v w):
  (results fn tmps).run P w= .ok (.tuple #[v,u,x]) w:=by
 have hp':tmps[p]?.getD undef= .pointer (some ad):=by simpa using hp
 have ht':tmps[t]?.getD undef=u:=by simpa using ht
 have hs':tmps[s]?.getD undef=x:=by simpa using hs
 simp[results,h,hp',ht',hs',asAddr,hl]
theorem results_cc{fn:Func}{p q:Tmp}{ty tz:TypeId}{ad ae:Addr}{v u:Value}(h:fn.results= #[.cell p ty,.cell q tz])(tmps:Array Value)(hp:tmps.getD p undef= .pointer (some ad))(hq:tmps.getD q undef= .pointer (some ae))(hl:(loadVar ty ad).run P w= .ok v w)(hm:(loadVar tz ae).run P w= .ok u w):
  (results fn tmps).run P w= .ok (.tuple #[v,u]) w:=by
 have hp':tmps[p]?.getD undef= .pointer (some ad):=by simpa using hp
 have hq':tmps[q]?.getD undef= .pointer (some ae):=by simpa using hq
 simp[results,h,hp',hq',asAddr,hl,hm]
end
theorem obase{w:World}{base base' e size n:Nat}{v:Value}{xs:List Value}(h:w.ownsRow base e size v n xs)(hb:base'<=base):w.ownsRow base' e size v n xs:=by
 obtain⟨h1,h2⟩:=h;refine⟨h1,h2.imp id ?_⟩;rintro⟨g,cap,cur,a,b,c⟩;exact⟨g,cap,cur,a,Nat.le_trans hb b,c⟩
end Go.Proofs.YtaccidkgnkmagaaGreatDoor.Top
