/-
  TopGrants: the theorem through all layers. Conditions: the table isa.uses as the program lays it (tied); what is read is of bulk at most 1048576.
-/
import Derived.Test.YtaccidkgnkmagaaGreatDoorTs28
set_option maxRecDepth 16000
set_option maxHeartbeats 12800000
set_option linter.unusedVariables false
set_option linter.unusedSimpArgs false
namespace Go.Proofs.YtaccidkgnkmagaaGreatDoor.Top
section
open Go.RowKit Go.Proofs.YtaccidkgnkmagaaGreatDoor.Isa
def GInv(part:Int)(fr:Int)(l:List (Array Value))(j:Nat)(y:Sy)(rest:Bool):Prop:=
 (∀(i:Nat) (z:Se),y.S[i]? =some z->z.x.now<=cntT i fr l j)/\(rest=false-> ∀(i:Nat) (z:Se),(i:Int)=part->y.S[i]? =some z->z.x.now=cntT i fr l j/\(z.st=1\/z.st=3))
theorem GInv.step{part:Int}{p:Pn}{l:List (Array Value)}{j:Nat}{y y':Sy}{rest rest':Bool}(h:GInv part p.fr l j y rest)(hs:StepS p y y')(hn:y.now=j)(hsc:y.sched=0)(hw:p.wl=[l])(hck:yv p.fr p.lP p.wl p.lC=0)
  (hr:rest'=false->rest=false/\ ∀(i:Nat) (z:Se),(i:Int)=part->y'.S[i]? =some z->z.st=1):GInv part p.fr l (j+1) y' rest':=by
 have hwn:xy p.fr p.lP p.wl p.lC y.sched=l:=by
  rw[hsc];rw[hw] at hck⊢;exact wins_one hck
 have hst:=hs.seat;rw[hwn,hn] at hst;refine⟨fun i z hz=> ?_,fun e i z hi hz=> ?_⟩
 ·obtain⟨z0,e0,k0⟩:=hst i z hz
  have h1:=h.1 i z0 e0;have h2:=k0.hi;simp only[cntT];omega
 ·obtain⟨e1,e2⟩:=hr e
  have hz1:=e2 i z hi hz;obtain⟨z0,e0,k0⟩:=hst i z hz;obtain⟨n0,s0⟩:=h.2 e1 i z0 hi e0;have hs1:z0.st=1:=by
   rcases s0 with h1|h3
   ·exact h1
   ·have:=k0.halt h3;omega
  have:=k0.run hs1;simp only[cntT];exact⟨by omega,.inl hz1⟩
theorem grantL_le{np:Nat}{fr:Int}{i:Int}(hf:fr<=4096): ∀{l:List (Array Value)} {b:Int},wsE np fr b l=0->0<=jU i l/\jU i l<=4096*l.length
 |[],b,_=>⟨by simp[jU],by simp[jU]⟩
 |r::l,b,h=>by
  rw[wsE] at h;split at h
  ·contradiction
  ·rename_i h1
   have h2:=winE_ok (by simpa using h1);have ih:=grantL_le (i:=i) hf h;simp only[jU,List.length_cons];split<;>(push_cast;omega)
theorem wsE_take{np:Nat}{fr:Int}: ∀{l:List (Array Value)} {b:Int} (k:Nat),wsE np fr b l=0->wsE np fr b (l.take k)=0
 |[],b,k,_=>by simp[wsE]
 |r::l,b,0,_=>by simp[wsE]
 |r::l,b,k+1,h=>by
  rw[List.take_succ_cons];rw[wsE] at h⊢;split at h
  ·contradiction
  ·rename_i h1
   rw[if_neg h1];exact wsE_take k h
theorem frames_ok(nn:Int){fr:Int}(hf:1<=fr): ∃F:Nat,0<=(F:Int)*fr/\(F:Int)*fr<=600/\(Zl nn).tdiv fr=F/\(F:Int)<=600:=by
 have h0:0<=Zl nn/\Zl nn<=600:=by unfold Zl;split<;>(try split)<;>omega
 obtain⟨m,hm⟩: ∃m,Zl nn=m:=⟨_,rfl⟩;rw[hm] at h0⊢;have h1:0<=m/fr:=Int.ediv_nonneg h0.1 (by omega);have h2:m/fr*fr<=m:=Int.ediv_mul_le _ (by omega);have h3:m/fr<=m:=Int.ediv_le_self _ h0.1;refine⟨(m/fr).toNat,?_,?_,?_,?_⟩
 ·rw[Int.toNat_of_nonneg h1];exact Int.mul_nonneg h1 (by omega)
 ·rw[Int.toNat_of_nonneg h1];omega
 ·rw[Int.toNat_of_nonneg h1];exact Int.tdiv_eq_ediv_of_nonneg h0.1
 ·rw[Int.toNat_of_nonneg h1];omega
theorem win_one{r:Array Value}(h:Ty kWin r):r[0]? =some (.int .i64 (zQ r 0))/\r[2]? =some (.int .i64 (zQ r 2)):=⟨xq h 0 rfl,xq h 2 rfl⟩
theorem grants_any(p:Pn)(nn part:Int)(w:World)(hG:PnG p (fun _=>False) w)(hT:ZJ p.lP p.wl p.lC)(hI: ∀l∈p.il,∀r∈l,∃t:ByteArray,r= #[.string t])(hIl: ∀l∈p.il,l.length<=10000000)(hile:p.il.length<=10000000)(hf0: -9223372036854775808<=p.fr)(hf1:p.fr<=9223372036854775807)(hTab:Tab w):
  Calls Tryz.prog 3 #[.agg #[p.vP,.int .i64 p.fr,p.vW,p.vC,p.vI,.int .i64 nn,.int .i64 part]] w fun e w'=>e= .returned (.bool true)/\Below w.heap.size w w':=by
 obtain⟨vP,lP,fr,vW,lW,wl,vC,lC,vI,lI,il⟩:=p;dsimp only at hT hI hIl hile hf0 hf1;obtain⟨AW,cW,eW,hlcW,_⟩:=hG.1.2.1.len;have hwl:=hG.1.2.2.1.1;dsimp only at eW hwl;obtain⟨nW,hnW⟩: ∃n,lW.length=n:=⟨_,rfl⟩;rw[hnW] at eW hlcW hwl;subst eW;have k:Hid (St (fun _=>False) (fun _=>False) w [] (PnG ⟨vP,lP,fr,.slice AW nW cW,lW,wl,vC,lC,vI,lI,il⟩) (fun _=>False) w):=St.begin (fun _ h=>h.elim) hG (per_pn _);have HT:=Lib.hid hT;have HI:=Lib.hid hI;have HIL:=Lib.hid hIl;have HTB:=Lib.hid hTab;have HWL:=Lib.hid hwl;have HNW:=Lib.hid hnW;clear hG hT hI hIl hTab hwl hnW;go_enter Tryz.func3,Tryz.ntmps3
 go_upto_region 1 with((with_reducible refine zI ?_);refine bxa k (T:=29) rfl ?_;clear k;intro c29 X W k)
 replace k:Hid (St _ _ _ [(c29,#[vP,.int .i64 fr,.slice AW nW cW,vC,vI,.int .i64 nn,.int .i64 part],_)] _ _ _):=k;go_wp2_with fail;refine(shown_any _ (jt HTB.out k.out.only (fun h=>h))).mono ?_;rintro e W1 ⟨rfl,hb⟩;replace k:=zj (k.out.call hb);clear hb;go_wp2_with((with_reducible refine zz ?_);refine ld1 k rfl rfl .a0 (by rfl) ?_);refine(few_any vI lI il _ k.out.out.2.1 k.out.out.2.2 hile HIL.out).mono ?_;rintro e W2 ⟨small,rfl,hb⟩;replace k:=zj (k.out.call hb);clear hb;go_wp2_with((with_reducible refine zz ?_);first|(refine ld1 k rfl rfl .a0 (by rfl) ?_)|(refine ldp k rfl rfl .a0 (D:= #[_,_,_,_]) (by rfl) (by rfl) ?_));refine(hbegin_any ⟨vP,lP,fr,.slice AW nW cW,lW,wl,vC,lC,vI,lI,il⟩ _ _ k.out.lt k.out.fact HT.out HI.out HIL.out hf0 hf1).mono ?_;rintro e W3 (⟨hne,rfl,hb⟩|⟨hck,y,rfl,hG,hok,⟨hn0,_,_,hS0⟩,hb⟩)
 ·replace k:=zj (k.out.call hb)
  clear hb;obtain⟨cv,hcv⟩: ∃a,yv fr lP wl lC=a:=⟨_,rfl⟩;dsimp only at hne;rw[hcv] at hne⊢;clear hcv;have dcv:(cv==0)=false:=by rw[beq_eq_false_iff_ne];exact hne
  have ncv: ¬(cv=0):=hne;cases small;all_goals
   go_wp2_with(first|((with_reducible refine zp ?_);first|go_big_skip|refine zg rfl rfl rfl (by with_reducible rfl) ?_)|((with_reducible refine zx ?_);refine soa k rfl rfl rfl .a0 (by rfl) (by rfl) (zm rfl) ?_;clear k;intro W k)|((with_reducible refine zf ?_);refine ala k Tryz.zeroValue36 ?_;clear k;intro b36 X W k));exact bodyPost_ret (zh rfl rfl) rfl ⟨rfl,k.out.end⟩
 dsimp only at hck;have HCK:=Lib.hid hck;have ho:=qw hG;have HN0:=Lib.hid hn0;have HS0:=Lib.hid hS0;have OK0:=Lib.hid hok;have hszy:(SyC ⟨vP,lP,fr,.slice AW nW cW,lW,wl,vC,lC,vI,lI,il⟩ y).size=11:=rfl;replace k:=zj ((k.out.call hb).turn (fun _=>hG) (xp _ _ _));clear hb hG hok hn0 hS0 hck;have dz:((0:Int)==0)=true:=rfl;cases small with
 |false=>
  go_wp2_with(first|((with_reducible refine zp ?_);first|go_big_skip|refine zg rfl rfl rfl (by with_reducible rfl) ?_)|((with_reducible refine zx ?_);refine soa k rfl rfl rfl .a0 (by with_reducible assumption) (by rfl) (by assumption) ?_;clear k;intro W k)|((with_reducible refine zf ?_);refine ala k Tryz.zeroValue36 ?_;clear k;intro b36 X W k));exact bodyPost_ret (zh rfl rfl) rfl ⟨rfl,k.out.end⟩
 |true=>
 by_cases hw1:nW=1
 ·subst hw1
  obtain⟨l,hl⟩:=List.length_eq_one_iff.1 HWL.out.symm;obtain⟨rW,hrW⟩:=List.length_eq_one_iff.1 HNW.out;subst hl hrW;clear HWL HNW;obtain⟨Aw,cw,hrw,hslw⟩:=k.out.fact.1.1.2.2.1.2 0 rW l rfl rfl;subst hrw;obtain⟨bw,ow,eA,_⟩:=k.out.fact.1.1.2.1.row (i:=0) rfl (by decide);subst eA;obtain⟨Aw',cw',ew,hlcw,hcmw⟩:=hslw.len;injection ew with ew1 ew2 ew3;subst ew1 ew3;unfold maxLen at hcmw;replace k:=zj (k.out.add hslw (zb _ _ _));clear hslw ew2;have HP:Hid (PnT ⟨vP,lP,fr,.slice (some ⟨bw,ow,none⟩) 1 cW,[#[.slice Aw l.length cw]],[l],vC,lC,vI,lI,il⟩):=⟨HT.out,HCK.out,HI.out,HIL.out⟩;have hcc:=vx HCK.out;have hf2:1<=fr:=hcc.2.2.2.2.2.1;have hf3:fr<=4096:=hcc.2.2.2.2.2.2.1;have HWS:Hid (wsE lP.length fr 0 l=0):=wssE_all hcc.2.2.2.2.2.2.2.1 l (List.mem_cons_self ..);have hl8:l.length<=8:=by
   have h:=HCK.out;unfold yv at h;split at h
   ·cases h
   ·rename_i h1
    have h2: ¬([l].any (fun l=>decide (8<l.length))=true):=fun x=>h1 (.inr (.inr (.inr x)));simp at h2;exact h2
  have HTW:Hid (∀r∈l,Ty kWin r):=HT.out.W l (List.mem_cons_self ..);have hlP4:=hcc.1;clear hcc;obtain⟨F,hF0,hF1,htd,hFm⟩:=frames_ok nn hf2;have hwF:IntKind.i64.wrap (F:Int)=F:=xg (by omega) (by omega);have hnz:(fr==0)=false:=by rw[beq_eq_false_iff_ne];omega
  have hnz2: ¬(fr=0):=by omega
  obtain⟨TT,hTT⟩: ∃n:Nat,(F:Int)*fr=n:=⟨((F:Int)*fr).toNat,by rw[Int.toNat_of_nonneg hF0]⟩;have HTT:=Lib.hid hTT;have hwT:IntKind.i64.wrap ((F:Int)*fr)=TT:=by rw[hTT];exact xg (by omega) (by omega)
  have hTle:TT<=600:=by omega
  have hcW0:(0:Int)<cW:=by omega
  obtain⟨MM,hMM⟩: ∃m,Zl nn=m:=⟨_,rfl⟩;rw[hMM] at htd;have HMM:=Lib.hid hMM;clear hTT hF0 hF1 hMM
  go_upto_region 6 with(first|((with_reducible refine zp ?_);first|refine zg rfl rfl rfl (by with_reducible rfl) ?_)|((with_reducible refine zz ?_);refine ld1 k rfl rfl .a1 (by rfl) ?_)|((with_reducible refine zx ?_);refine soa k rfl rfl rfl .a0 (by with_reducible assumption) (by rfl) (by assumption) ?_;clear k;intro W k)|((with_reducible refine zf ?_);refine ala k Tryz.zeroValue36 ?_;clear k;intro b36 X W k))
  have HPer:=Lib.hid k.out.per;refine zt k 8 8 (by kernel_rfl) rfl ?_;clear k;intro W k;refine zq [(0,some 44,[]),(1,some 45,[]),(3,some 47,[]),(4,some 48,[]),(5,some 49,[])] [?v1_0,?v1_1,?v1_3,?v1_4,?v1_5] 3 (by kernel_rfl) ⟨_,k.out⟩ ?l1 ?h1;case l1=>
   intro w' hSw;iterate 5
    refine lkw rfl rfl (by rfl) ?_ ?_
    ·first|((with_reducible refine yw ?_);first|exact hSw.l1 rfl rfl .a1 (by rfl))|(go_simp<;>with_reducible rfl)
    try simp only[Act.put,tS,t0,t1]
   trivial
  simp only[zw,zk,Act.put,tS,t0,t1];refine w1 2 2 (by kernel_rfl) rfl ?_;go_wp2_with fail;refine(most_any nn _).mono ?_;rintro e W4 ⟨rfl,hb4⟩;rw[HMM.out];replace k:=zj (k.out.call hb4);clear hb4;go_wp2_with fail;refine zd (yz ⟨_,k.out⟩) ?_;refine zq [(6,some 50,[]),(7,some 7,[])] [?v2_6,?v2_7] 0 (by kernel_rfl) ⟨_,k.out⟩ ?l2 ?h2;case l2=>
   intro w' hSw;iterate 2
    refine lkw rfl rfl (by rfl) ?_ ?_
    ·go_simp<;>with_reducible rfl
    try simp only[Act.put,tS,t0,t1]
   trivial
  simp only[zw,zk,Act.put,tS,t0,t1];refine zv (by kernel_rfl) ?_ _;clear HPer;go_wp2_with fail;replace k:Hid (St _ _ _ [(b36,SyC ⟨vP,lP,fr,.slice (some ⟨bw,ow,none⟩) 1 cW,[#[.slice Aw l.length cw]],[l],vC,lC,vI,lI,il⟩ y,_),(c29,#[vP,.int .i64 fr,.slice (some ⟨bw,ow,none⟩) 1 cW,vC,vI,.int .i64 nn,.int .i64 part],_)] _ _ _):=k
  go_loopw [8,9] (fun r i W=> ∃(j:Nat) (y':Sy) (rest:Bool),j<=TT/\r= .bool rest/\i= .int .i64 j/\Hid (SyOk ⟨vP,lP,fr,.slice (some ⟨bw,ow,none⟩) 1 cW,[#[.slice Aw l.length cw]],[l],vC,lC,vI,lI,il⟩ j y')/\Hid (y'.now=j)/\Hid (GInv part fr l j y' rest)/\Hid (Stay (fun _=>False) (fun _=>False) w [(b36,SyC ⟨vP,lP,fr,.slice (some ⟨bw,ow,none⟩) 1 cW,[#[.slice Aw l.length cw]],[l],vC,lC,vI,lI,il⟩ y',36),(c29,#[vP,.int .i64 fr,.slice (some ⟨bw,ow,none⟩) 1 cW,vC,vI,.int .i64 nn,.int .i64 part],29)] (fun X W=>SyG ⟨vP,lP,fr,.slice (some ⟨bw,ow,none⟩) 1 cW,[#[.slice Aw l.length cw]],[l],vC,lC,vI,lI,il⟩ (8*j) y' X W/\Sl 3 (.slice Aw l.length cw) l X W) W)) (fun _ i _=>TT-(intOf i).toNat)
  case atStart=>exact⟨0,y,false,Nat.zero_le _,rfl,rfl,OK0,HN0,zj ⟨fun i z hz=>by have:=(HS0.out i z hz).now;simp only[cntT];omega,fun _ i z _ hz=>⟨by have:=(HS0.out i z hz).now;simp only[cntT];omega,(HS0.out i z hz).st⟩⟩,zj ⟨_,k.out⟩⟩
  case round=>
   obtain⟨j,y',rest,hjT,rfl,rfl,hOK,hN,hGI,hS⟩:=hrel;obtain⟨X,kS⟩:=hS.out;clear k hS;have k:=zj kS;clear kS;have hsz:(SyC ⟨vP,lP,fr,.slice (some ⟨bw,ow,none⟩) 1 cW,[#[.slice Aw l.length cw]],[l],vC,lC,vI,lI,il⟩ y').size=11:=rfl;by_cases hlt:j<TT
   ·have hji:(j:Int)<TT:=by omega
    go_upto_region 11 with((with_reducible refine zz ?_);refine ld1 k rfl rfl .a1 (by rfl) ?_)
    go_wp2_with((with_reducible refine zz ?_);refine lda k rfl rfl .a0 (by with_reducible assumption) ?_);refine(hstep_any ⟨vP,lP,fr,.slice (some ⟨bw,ow,none⟩) 1 cW,[#[.slice Aw l.length cw]],[l],vC,lC,vI,lI,il⟩ j (8*j) y' _ _ k.out.lt k.out.fact.1 HP.out hOK.out (by omega) (by omega) (jt HTB.out k.out.only (fun h=>h))).mono ?_;rintro e W5 ⟨y2,rfl,hG2,hok2,hst2,hb⟩;have hoy:=qw hG2;have hsz2:(SyC ⟨vP,lP,fr,.slice (some ⟨bw,ow,none⟩) 1 cW,[#[.slice Aw l.length cw]],[l],vC,lC,vI,lI,il⟩ y2).size=11:=rfl;have OK2:=Lib.hid hok2;have HN2:Hid (y2.now=((j+1:Nat):Int)):=zj (by rw[hst2.now,hN.out];push_cast;rfl);have HST2:=Lib.hid hst2;have HSC:Hid (y'.sched=0):=zj (hOK.out.one rfl).1;replace k:=zj ((k.out.call hb).turn (fun h=>⟨hG2,(zb _ _ _).below h.2 (Below.refl _ _)⟩) ((xp _ _ _).and (zb _ _ _)));clear hb hG2 hok2 hst2
    go_upto_region 12 with((with_reducible refine zx ?_);refine soa k rfl rfl rfl .a0 (by with_reducible assumption) (by with_reducible assumption) (by assumption) ?_;clear k;intro W k)
    replace k:Hid (St _ _ _ [(b36,SyC ⟨vP,lP,fr,.slice (some ⟨bw,ow,none⟩) 1 cW,[#[.slice Aw l.length cw]],[l],vC,lC,vI,lI,il⟩ y2,_),(c29,#[vP,.int .i64 fr,.slice (some ⟨bw,ow,none⟩) 1 cW,vC,vI,.int .i64 nn,.int .i64 part],_)] (fun X W=>SyG ⟨vP,lP,fr,.slice (some ⟨bw,ow,none⟩) 1 cW,[#[.slice Aw l.length cw]],[l],vC,lC,vI,lI,il⟩ (8*(j+1)) y2 X W/\Sl 3 (.slice Aw l.length cw) l X W) _ _):=k;obtain⟨now2,sched2,next2,vS2,vA2,own2,S2,A2⟩:=y2;obtain⟨D1,d1,f1,hd1,hdm1⟩:=k.out.fact.1.2.1.len;dsimp only at f1 hd1;rw[List.length_map] at f1 hd1;subst f1;have hrel': ∀rest':Bool,(rest'=false->rest=false/\ ∀(i:Nat) (z:Se),(i:Int)=part->S2[i]? =some z->z.st=1)->Hid (GInv part fr l (j+1) ⟨now2,sched2,next2,.slice D1 S2.length d1,vA2,own2,S2,A2⟩ rest'):=fun rest' h=>zj (GInv.step hGI.out HST2.out hN.out HSC.out rfl HCK.out h);have HREL:=Lib.hid hrel';clear hrel';cases rest with
    |true=>
     go_wp2_with((with_reducible refine zp ?_);first|go_big_skip)
     go_roundw
     case rel=>exact⟨j+1,_,true,by omega,rfl,by go_num,OK2,HN2,HREL.out true (fun h=>by cases h),zj ⟨_,k.out⟩⟩
     case measure=>simp[intOf];omega
    |false=>
    by_cases hp0:0<=part
    ·have dp0:decide (0<=part)=true:=decide_eq_true hp0
     by_cases hpl:part<(S2.length:Int)
     ·have dpl:decide (part<(S2.length:Int))=true:=decide_eq_true hpl
      obtain⟨pn,hpn⟩: ∃n:Nat,part=n:=⟨part.toNat,by omega⟩;have HPN:=Lib.hid hpn;have hln:pn<S2.length:=by omega
      obtain⟨z2,hz2⟩: ∃z,S2[pn]? =some z:=⟨_,List.getElem?_eq_getElem hln⟩;have hr2:(S2.map seC)[pn]? =some (seC z2):=by rw[List.getElem?_map,hz2];rfl
      obtain⟨st2,hst2⟩: ∃a,z2.st=a:=⟨_,rfl⟩;have hj2:(seC z2)[17]? =some (.int .i64 st2):=by rw[<-hst2];rfl
      obtain⟨bs2,os2,eD1,_⟩:=k.out.fact.1.2.1.row hr2 (by decide);have HED:=Lib.hid eD1;subst eD1;clear HED;have HR2:=Lib.hid hr2;have HJ2:=Lib.hid hj2;have HZ2:=Lib.hid hz2;have HS2:=Lib.hid hst2;have hpd:part<(d1:Int):=by omega
      have hpt:part.toNat=pn:=by omega
      clear hr2 hj2 hz2 hst2 hpn;have HD:=zj k.out.fact.1.2.1;by_cases hs1:st2=1
      ·have ds1:(st2==1)=true:=by rw[beq_iff_eq];exact hs1
       have HS1:=Lib.hid hs1;clear hs1;go_wp2_with(first|((with_reducible refine zz ?_);refine xX rfl rfl HD.out HR2.out (by decide) 17 HJ2.out rfl ⟨_,rfl,by first|rfl|omega⟩ (Tryz.isAgg3 _) ?_)|(first|((with_reducible refine zp ?_);first|refine zg rfl rfl rfl (by with_reducible rfl) ?_)|((with_reducible refine zz ?_);refine ld1 k rfl rfl (by repeat constructor) (by rfl) ?_)))
       go_roundw
       case rel=>exact⟨j+1,_,false,by omega,(by first|rfl|(rw[bne,ds1];rfl)),by go_num,OK2,HN2,HREL.out false (fun _=>⟨rfl,fun i z hi hz=>by obtain rfl:i=pn:=(by have:=HPN.out;omega);have e:=HZ2.out.symm.trans hz;injection e with e;rw[<-e,HS2.out];exact HS1.out⟩),zj ⟨_,k.out⟩⟩
       case measure=>simp[intOf];omega
      ·have ds1:(st2==1)=false:=by rw[beq_eq_false_iff_ne];exact hs1
       have ns1: ¬(st2=1):=hs1;clear hs1;go_wp2_with(first|((with_reducible refine zz ?_);refine xX rfl rfl HD.out HR2.out (by decide) 17 HJ2.out rfl ⟨_,rfl,by first|rfl|omega⟩ (Tryz.isAgg3 _) ?_)|(first|((with_reducible refine zp ?_);first|refine zg rfl rfl rfl (by with_reducible rfl) ?_)|((with_reducible refine zz ?_);refine ld1 k rfl rfl (by repeat constructor) (by rfl) ?_)))
       go_roundw
       case rel=>exact⟨j+1,_,true,by omega,(by first|rfl|(rw[bne,ds1];rfl)),by go_num,OK2,HN2,HREL.out true (fun h=>by cases h),zj ⟨_,k.out⟩⟩
       case measure=>simp[intOf];omega
     ·have dpl:decide (part<(S2.length:Int))=false:=decide_eq_false hpl
      go_wp2_with(first|((with_reducible refine zp ?_);first|go_big_skip|refine zg rfl rfl rfl (by with_reducible rfl) ?_)|((with_reducible refine zz ?_);refine ld1 k rfl rfl (by repeat constructor) (by rfl) ?_))
      go_roundw
      case rel=>exact⟨j+1,_,false,by omega,rfl,by go_num,OK2,HN2,HREL.out false (fun _=>⟨rfl,fun i z hi hz=>by have:=(List.getElem?_eq_some_iff.1 hz).1;omega⟩),zj ⟨_,k.out⟩⟩
      case measure=>simp[intOf];omega
    ·have dp0:decide (0<=part)=false:=decide_eq_false hp0
     go_wp2_with(first|((with_reducible refine zp ?_);first|go_big_skip|refine zg rfl rfl rfl (by with_reducible rfl) ?_)|((with_reducible refine zz ?_);refine ld1 k rfl rfl .a1 (by rfl) ?_))
     go_roundw
     case rel=>exact⟨j+1,_,false,by omega,rfl,by go_num,OK2,HN2,HREL.out false (fun _=>⟨rfl,fun i z hi hz=>by omega⟩),zj ⟨_,k.out⟩⟩
     case measure=>simp[intOf];omega
   ·obtain rfl:j=TT:=by omega
    have hji:(j:Int)<=j:=Int.le_refl _;have HGE:Hid ((∀(i:Nat) (z:Se),y'.S[i]? =some z->z.x.now<=F*jU i l)/\(rest=false-> ∀(i:Nat) (z:Se),(i:Int)=part->y'.S[i]? =some z->z.x.now=F*jU i l)):=by
     have hTn:j=F*fr.toNat:=by
      have h1:((F*fr.toNat:Nat):Int)=F*fr:=by push_cast;rw[Int.toNat_of_nonneg (by omega)]
      have:=HTT.out;omega
     have hcn: ∀i:Nat,(cntT i fr l j:Int)=F*jU i l:=fun i=>by rw[hTn];exact count_frames i (by omega) hf2 HWS.out F
     exact zj ⟨fun i z hz=>by rw[<-hcn];exact hGI.out.1 i z hz,fun h i z hi hz=>by rw[<-hcn];exact(hGI.out.2 h i z hi hz).1⟩
    clear hGI hN;go_wp2_with((with_reducible refine zz ?_);refine ld1 k rfl rfl .a1 (by rfl) ?_);clear hlt hji hjT;obtain⟨now2,sched2,next2,vS2,vA2,own2,S2,A2⟩:=y';obtain⟨D1,d1,f1,hd1,hdm1⟩:=k.out.fact.1.2.1.len;dsimp only at f1 hd1;rw[List.length_map] at f1 hd1;subst f1;have hS4:S2.length<=4:=by have:=hOK.out.Sl;dsimp only at this;omega
    dsimp only at HGE;have HNOW:Hid (∀(i:Nat) (z:Se),S2[i]? =some z->0<=z.x.now/\z.x.now<=600):=fun i z hz=>by have h:=hOK.out.seat i z hz;have h1:=h.now;have h2:=h.ok.now.1;omega
    go_loopw [10] (fun i W=> ∃ii:Nat,ii<=S2.length/\i= .int .i64 ii/\Hid (Stay (fun _=>False) (fun _=>False) w [(b36,SyC ⟨vP,lP,fr,.slice (some ⟨bw,ow,none⟩) 1 cW,[#[.slice Aw l.length cw]],[l],vC,lC,vI,lI,il⟩ ⟨now2,sched2,next2,.slice D1 S2.length d1,vA2,own2,S2,A2⟩,36),(c29,#[vP,.int .i64 fr,.slice (some ⟨bw,ow,none⟩) 1 cW,vC,vI,.int .i64 nn,.int .i64 part],29)] (fun X W=>SyG ⟨vP,lP,fr,.slice (some ⟨bw,ow,none⟩) 1 cW,[#[.slice Aw l.length cw]],[l],vC,lC,vI,lI,il⟩ (8*j) ⟨now2,sched2,next2,.slice D1 S2.length d1,vA2,own2,S2,A2⟩ X W/\Sl 3 (.slice Aw l.length cw) l X W) W)) (fun i _=>S2.length-(intOf i).toNat)
    case atStart=>exact⟨0,Nat.zero_le _,rfl,zj ⟨_,k.out⟩⟩
    case round=>
     obtain⟨ii,hii,rfl,hS⟩:=hrel;obtain⟨X,kS⟩:=hS.out;clear k hS;have k:=zj kS;clear kS;by_cases hlt:ii<S2.length
     ·have hil:(ii:Int)<S2.length:=by omega
      obtain⟨z2,hz2⟩: ∃z,S2[ii]? =some z:=⟨_,List.getElem?_eq_getElem hlt⟩;have hr2:(S2.map seC)[ii]? =some (seC z2):=by rw[List.getElem?_map,hz2];rfl
      obtain⟨got,hgot⟩: ∃a,z2.x.now=a:=⟨_,rfl⟩;have hj2:(seC z2)[7]? =some (.int .u64 got):=by rw[<-hgot];rfl
      have hgb:=HNOW.out ii z2 hz2;have hg1:=HGE.out.1 ii z2 hz2;have HG2:=Lib.hid (fun h hi=>HGE.out.2 h ii z2 hi hz2);rw[hgot] at hgb hg1 HG2;have hgl:=grantL_le (i:=(ii:Int)) hf3 HWS.out;obtain⟨sum,hsum⟩: ∃a,jU (ii:Int) l=a:=⟨_,rfl⟩;rw[hsum] at hg1 HG2 hgl;have HSUM:=Lib.hid hsum;obtain⟨bs2,os2,eD1,_⟩:=k.out.fact.1.2.1.row hr2 (by decide);have HED:=Lib.hid eD1;subst eD1;clear HED;have HR2:=Lib.hid hr2;have HJ2:=Lib.hid hj2;have hid2:(ii:Int)<d1:=by omega
      clear hr2 hj2 hz2 hgot hsum;go_wp2_with((with_reducible refine zz ?_);refine ld1 k rfl rfl .a0 (by rfl) ?_)
      go_loopw [11,12] (fun su q W=> ∃kk:Nat,kk<=l.length/\su= .int .i64 (jU (ii:Int) (l.take kk))/\q= .int .i64 kk/\Hid (Stay (fun _=>False) (fun _=>False) w [(b36,SyC ⟨vP,lP,fr,.slice (some ⟨bw,ow,none⟩) 1 cW,[#[.slice Aw l.length cw]],[l],vC,lC,vI,lI,il⟩ ⟨now2,sched2,next2,.slice (some ⟨bs2,os2,none⟩) S2.length d1,vA2,own2,S2,A2⟩,36),(c29,#[vP,.int .i64 fr,.slice (some ⟨bw,ow,none⟩) 1 cW,vC,vI,.int .i64 nn,.int .i64 part],29)] (fun X W=>SyG ⟨vP,lP,fr,.slice (some ⟨bw,ow,none⟩) 1 cW,[#[.slice Aw l.length cw]],[l],vC,lC,vI,lI,il⟩ (8*j) ⟨now2,sched2,next2,.slice (some ⟨bs2,os2,none⟩) S2.length d1,vA2,own2,S2,A2⟩ X W/\Sl 3 (.slice Aw l.length cw) l X W) W)) (fun _ q _=>l.length-(intOf q).toNat)
      case atStart=>exact⟨0,Nat.zero_le _,rfl,rfl,zj ⟨_,k.out⟩⟩
      case round=>
       obtain⟨kk,hkk,rfl,rfl,hS⟩:=hrel;obtain⟨X,kS⟩:=hS.out;clear k hS;have k:=zj kS;clear kS;have HDW:=zj k.out.fact.1.1.1.2.1;by_cases hkl:kk<l.length
       ·have hkli:(kk:Int)<l.length:=by omega
        obtain⟨r,hr⟩: ∃r,l[kk]? =some r:=⟨_,List.getElem?_eq_getElem hkl⟩;have hw0:=win_one (HTW.out r (List.mem_of_getElem? hr));have hgt:=grantL_take (i:=(ii:Int)) hr;have hb0:=grantL_le (i:=(ii:Int)) hf3 (wsE_take (kk+1) HWS.out);have hb1:=grantL_le (i:=(ii:Int)) hf3 (wsE_take kk HWS.out);have hlt1:(l.take (kk+1)).length<=8:=by rw[List.length_take];omega
        have hlt2:(l.take kk).length<=8:=by rw[List.length_take];omega
        obtain⟨g0,hg0⟩: ∃a,jU (ii:Int) (l.take kk)=a:=⟨_,rfl⟩;rw[hg0] at hgt hb1⊢;obtain⟨bl,ol,eAw,_⟩:=k.out.fact.2.row hr (by decide);have HEW:=Lib.hid eAw;subst eAw;clear HEW;have HRW:=Lib.hid hr;have HW0:=Lib.hid hw0;have HGT:=Lib.hid hgt;have HLEN:=Lib.hid (wsE_all HWS.out r (List.mem_of_getElem? hr));obtain⟨wp,hwp⟩: ∃a,zQ r 0=a:=⟨_,rfl⟩;obtain⟨wn,hwn⟩: ∃a,zQ r 2=a:=⟨_,rfl⟩;have hw1:=HW0.out.1;have hw2:=HW0.out.2;have hwb:=HLEN.out;rw[hwp] at hw1 hgt hwb;rw[hwn] at hw2 hgt hwb;have HW1:=Lib.hid hw1;have HW2:=Lib.hid hw2;have HGT2:=Lib.hid hgt;have hklc:(kk:Int)<cw:=by omega
        have HDL:=zj k.out.fact.2;have hww1:IntKind.i64.wrap (g0+wn)=g0+wn:=xg (by omega) (by omega);have hww2:IntKind.i64.wrap (g0+wn-2)=g0+wn-2:=xg (by omega) (by omega);clear hr hw0 hgt hg0 HW0 HGT hwp hwn hw1 hw2;by_cases hpe:wp=(ii:Int)
        ·have dpe:(wp==(ii:Int))=true:=by rw[beq_iff_eq];exact hpe
         have HPE:=Lib.hid hpe;clear hpe;go_wp2_with(first|((with_reducible refine zz ?_);first|(refine qx (i:=0) rfl rfl HDW.out rfl rfl ⟨_,rfl,rfl⟩ (Tryz.isAgg59 _) ?_)|(refine xX rfl rfl HDL.out HRW.out (by decide) 0 HW1.out rfl ⟨_,rfl,by first|rfl|omega⟩ (Tryz.isAgg3 _) ?_)|(refine xX rfl rfl HDL.out HRW.out (by decide) 2 HW2.out rfl ⟨_,rfl,by first|rfl|omega⟩ (Tryz.isAgg3 _) ?_))|((with_reducible refine zz ?_);refine ld1 k rfl rfl .a1 (by rfl) ?_))
         go_roundw
         case rel=>exact⟨kk+1,by omega,by rw[HGT2.out,if_pos HPE.out];show Value.int .i64 (g0+wn-2)=_;congr 1;omega,by go_num,zj ⟨_,k.out⟩⟩
         case measure=>simp[intOf];omega
        ·have dpe:(wp==(ii:Int))=false:=by rw[beq_eq_false_iff_ne];exact hpe
         have npe: ¬(wp=(ii:Int)):=hpe;clear hpe;go_wp2_with(first|((with_reducible refine zz ?_);first|(refine qx (i:=0) rfl rfl HDW.out rfl rfl ⟨_,rfl,rfl⟩ (Tryz.isAgg59 _) ?_)|(refine xX rfl rfl HDL.out HRW.out (by decide) 0 HW1.out rfl ⟨_,rfl,by first|rfl|omega⟩ (Tryz.isAgg3 _) ?_)|(refine xX rfl rfl HDL.out HRW.out (by decide) 2 HW2.out rfl ⟨_,rfl,by first|rfl|omega⟩ (Tryz.isAgg3 _) ?_))|((with_reducible refine zz ?_);refine ld1 k rfl rfl .a1 (by rfl) ?_))
         go_roundw
         case rel=>exact⟨kk+1,by omega,by rw[HGT2.out,if_neg npe];congr 1;omega,by go_num,zj ⟨_,k.out⟩⟩
         case measure=>simp[intOf];omega
       ·obtain rfl:kk=l.length:=by omega
        rw[List.take_length,HSUM.out];have hkli:(l.length:Int)<=l.length:=Int.le_refl _;have HD:=zj k.out.fact.1.2.1;have hwg:IntKind.i64.wrap got=got:=xg (by omega) (by omega);have hfs0:0<=(F:Int)*sum:=Int.mul_nonneg (by omega) hgl.1;have hfs1:(F:Int)*sum<=600*40000:=Int.mul_le_mul (by omega) (by omega) hgl.1 (by omega);have hwfs:IntKind.i64.wrap ((F:Int)*sum)=(F:Int)*sum:=xg (by omega) (by omega);obtain⟨fs,hfs⟩: ∃a,(F:Int)*sum=a:=⟨_,rfl⟩;have hwfs2:IntKind.i64.wrap ((F:Int)*sum)=fs:=by rw[hwfs];exact hfs
        clear hwfs;rw[hfs] at hg1 HG2;have dgt:decide (fs<got)=false:=decide_eq_false (by omega);have HFS:=Lib.hid hfs;have hFd:decide ((0:Int)<=(F:Int))=true:=decide_eq_true (by omega);clear hfs hfs0 hfs1;by_cases hip:(ii:Int)=part
        ·have dip:((ii:Int)==part)=true:=by rw[beq_iff_eq];exact hip
         have HIP:=Lib.hid hip;clear hip;cases rest with
         |true=>
          go_wp2_with(first|((with_reducible refine zz ?_);first|(refine qx (i:=0) rfl rfl HDW.out rfl rfl ⟨_,rfl,rfl⟩ (Tryz.isAgg59 _) ?_)|(refine xX rfl rfl HD.out HR2.out (by decide) 7 HJ2.out rfl ⟨_,rfl,by first|rfl|omega⟩ (Tryz.isAgg32 _) ?_))|(first|((with_reducible refine zp ?_);first|refine zg rfl rfl rfl (by with_reducible rfl) ?_)|((with_reducible refine zz ?_);refine ld1 k rfl rfl (by repeat constructor) (by rfl) ?_)))
          go_roundw
          case rel=>exact⟨ii+1,by omega,by go_num,zj ⟨_,k.out⟩⟩
          case measure=>simp[intOf];omega
         |false=>
          have hge:got=fs:=HG2.out rfl HIP.out;have dge:(got==fs)=true:=by rw[beq_iff_eq];exact hge
          clear hge;go_wp2_with(first|((with_reducible refine zz ?_);first|(refine qx (i:=0) rfl rfl HDW.out rfl rfl ⟨_,rfl,rfl⟩ (Tryz.isAgg59 _) ?_)|(refine xX rfl rfl HD.out HR2.out (by decide) 7 HJ2.out rfl ⟨_,rfl,by first|rfl|omega⟩ (Tryz.isAgg32 _) ?_))|(first|((with_reducible refine zp ?_);first|refine zg rfl rfl rfl (by with_reducible rfl) ?_)|((with_reducible refine zz ?_);refine ld1 k rfl rfl (by repeat constructor) (by rfl) ?_)))
          go_roundw
          case rel=>exact⟨ii+1,by omega,by go_num,zj ⟨_,k.out⟩⟩
          case measure=>simp[intOf];omega
        ·have dip:((ii:Int)==part)=false:=by rw[beq_eq_false_iff_ne];exact hip
         have nip: ¬((ii:Int)=part):=hip;clear hip;go_wp2_with(first|((with_reducible refine zz ?_);first|(refine qx (i:=0) rfl rfl HDW.out rfl rfl ⟨_,rfl,rfl⟩ (Tryz.isAgg59 _) ?_)|(refine xX rfl rfl HD.out HR2.out (by decide) 7 HJ2.out rfl ⟨_,rfl,by first|rfl|omega⟩ (Tryz.isAgg32 _) ?_))|(first|((with_reducible refine zp ?_);first|refine zg rfl rfl rfl (by with_reducible rfl) ?_)|((with_reducible refine zz ?_);refine ld1 k rfl rfl (by repeat constructor) (by rfl) ?_)))
         go_roundw
         case rel=>exact⟨ii+1,by omega,by go_num,zj ⟨_,k.out⟩⟩
         case measure=>simp[intOf];omega
     ·have hil:(S2.length:Int)<=ii:=by omega
      go_wp2_with((with_reducible refine zz ?_);refine ld1 k rfl rfl .a0 (by rfl) ?_);exact bodyPost_ret (zh rfl rfl) rfl ⟨rfl,k.out.end⟩
 ·have dW:((nW:Int)==1)=false:=by rw[beq_eq_false_iff_ne];omega
  have ndW: ¬((nW:Int)=1):=by omega
  clear hw1;go_wp2_with(first|((with_reducible refine zp ?_);first|refine zg rfl rfl rfl (by with_reducible rfl) ?_)|((with_reducible refine zz ?_);refine ld1 k rfl rfl .a1 (by rfl) ?_)|((with_reducible refine zx ?_);refine soa k rfl rfl rfl .a0 (by with_reducible assumption) (by rfl) (by assumption) ?_;clear k;intro W k)|((with_reducible refine zf ?_);refine ala k Tryz.zeroValue36 ?_;clear k;intro b36 X W k));exact bodyPost_ret (zh rfl rfl) rfl ⟨rfl,k.out.end⟩
end
section
open Go.ChangeShapes Go.WideShapes Go.ChangeAt Go.RowKit Go.Joins Go.ChangeMaps Go.Proofs.YtaccidkgnkmagaaGreatDoor.Isa
theorem grants_contract(H:Type)(enc:TypeId×Value->H)(W:World)(base:Nat)(args:Array Value)(ds gs:List (DataW H))(before:List MemPlace)
  (hval: ∀(j:Nat) t v,Tryz.f3.params[j]? =some t->args[j]? =some v->Value.okWide Tryz.prog W .any base t v)
  (hW:DataW.Whole enc Tryz.prog Tryz.f3.params.toList Rows.topGrantsSpec.vars false W args.toList ds gs before) (hL:laidMetH Tryz.prog Rows.topGrantsUptoRow.laid W) (hc:Rows.uptoSmall H (ds++gs)=true):
  Calls Tryz.prog 3 args W fun e W'=> ∃v,e= .returned v/\Rows.topGrantsSpec.post enc Tryz.prog Tryz.f3 false true false false W args v W':=by
 have hW':=hW;obtain⟨p,q,hA0,hV,rfl,hfz,hnd⟩:=hW;have hA:DataW.TrodAll enc Tryz.prog W 0 (fun _=>true) true Tryz.f3.params.toList args.toList ds p:=hA0;rw[Tryz.params3] at hA hval;obtain⟨v0,d0,rfl,rfl,h0⟩:=trodAll_one hA;obtain⟨rfl,rfl⟩:=trodVars_none hV;have hq:=bulk_one hc;obtain⟨pn,nn,part,rfl,hAs⟩:=open_asked Tryz.underlying29 rfl (by kernel_rfl) (hval 0 29 v0 rfl rfl) h0 hq;have hT:Tab W:=tab_of (Lib.tabIs_of_head (rest:=[]) gUses gUsesType Tryz.underlying288 Tryz.underlying3 cellsInt cellsUses hL);refine(grants_any pn nn part W hAs.G hAs.T hAs.img hAs.iml hAs.ile hAs.f0 hAs.f1 hT).mono fun e W' ⟨he,hb⟩=> ?_;subst he;exact⟨_,rfl,law_post laidOut (by kernel_rfl) Tryz.underlying4 (by kernel_rfl) rfl hW' rfl hb⟩
theorem grants_met(os:Os):laidMet Tryz.prog Rows.topGrantsUptoRow.laid ((gh os).forCall (fun _ _=>0) ⟨#[],#[.agg #[.slice none 0 0,.int .i64 0,.slice none 0 0,.slice none 0 0,.slice none 0 0,.int .i64 0,.int .i64 0]],[]⟩).memory:=
 laidMet_of_run' 8 (by kernel_rfl) (by kernel_rfl)
theorem grants_reads(os:Os){H:Type}(enc:TypeId×Value->H): ∃places,DataW.whole enc Tryz.prog ((gh os).forCall (fun _ _=>0) ⟨#[],#[.agg #[.slice none 0 0,.int .i64 0,.slice none 0 0,.slice none 0 0,.slice none 0 0,.int .i64 0,.int .i64 0]],[]⟩).memory Tryz.f3.params.toList Rows.topGrantsSpec.vars false (#[.agg #[.slice none 0 0,.int .i64 0,.slice none 0 0,.slice none 0 0,.slice none 0 0,.int .i64 0,.int .i64 0]]:Array Value).toList 8=some ([.agg [.agg [.nil,.lit (.int .i64 0),.nil,.nil],.nil,.lit (.int .i64 0),.lit (.int .i64 0)]],[],places):=
 ⟨[],by kernel_rfl⟩
set_option maxRecDepth 100000 in
theorem grants_lifted(os:Os)(started:os.Started)(H:Type)(enc:TypeId×Value->H)(F:Stop.Interp):
  ReturnsInHanded {} Tryz.checked os 3 .any ((Rows.OpenSpec.upto Rows.topGrantsSpec).preRow enc Tryz.prog Tryz.f3 Rows.topGrantsUptoRow.domain false Rows.topGrantsUptoRow.laid) (((Rows.OpenSpec.upto Rows.topGrantsSpec).at F).post enc Tryz.prog Tryz.f3 false true false false):=by
 obtain⟨places,hx⟩:=grants_reads os enc;refine returnsInHanded_of_row (C:=Tryz.checked) (s:=Rows.OpenSpec.upto Rows.topGrantsSpec) own started (by kernel_rfl) Tryz.func3
  (witness_row_at (enc:=enc) (C:=Tryz.checked) false (gh os) #[.agg #[.slice none 0 0,.int .i64 0,.slice none 0 0,.slice none 0 0,.slice none 0 0,.int .i64 0,.int .i64 0]] rfl (by kernel_rfl) (by kernel_rfl) (by kernel_rfl)
   (OpenSpec.preRow_of_cond 8 hx (by kernel_rfl) (fun k hk=>by cases hk;kernel_rfl) (by kernel_rfl) (grants_met os))) ?_
 intro W base args ds gs before hval hW _ hcond _ hL _ _;exact grants_contract H enc W base args ds gs before hval hW hL (hcond _ rfl)
theorem grants_said:Rows.TopGrantsUptoSaid:=
 OpenClaim.holds_of_cond 3 Tryz.f3 rfl rfl rfl rfl rfl rfl rfl ⟨rfl,rfl,rfl,rfl,rfl⟩ rfl rfl rfl rfl rfl (by kernel_rfl) Tryz.func3 (by kernel_rfl)
  (of_decide_eq_true (by kernel_rfl)) (by unfold Func.isWrapper;first|(rw[if_pos (by decide+kernel)];kernel_rfl)|(rw[if_neg (by decide+kernel)];exact⟨rfl,rfl⟩))
  (fun os started H enc _ F=>by rw[OpenClaim.pre_eq_preRow];exact grants_lifted os started H enc F)
theorem grants_plain(f:FuncId)(fn:Func)(hf:Tryz.pinned.checked.prog.funcNamed "transom/transomtop.TopGrants" =some f)(hfn:Tryz.pinned.checked.prog.funcs[f]? =some fn):
  false=Tryz.pinned.checked.prog.looks []/\ ∀(j:Nat) t,fn.params[j]? =some t->Tryz.pinned.checked.prog.wantsStandIn t=false:=by
 obtain rfl:f=3:=Option.some.inj ((show Tryz.prog.funcNamed "transom/transomtop.TopGrants" =some 3 by kernel_rfl).symm.trans hf)|>.symm
 obtain rfl:fn=Tryz.f3:=(Option.some.inj (Tryz.func3.symm.trans hfn)).symm;refine⟨by kernel_rfl,fun j t ht=> ?_⟩;rw[Tryz.params3] at ht;have hm:t∈ [29]:=by simpa using Array.mem_of_getElem? ht
 have hall:([29].all fun u=> !Tryz.prog.wantsStandIn u)=true:=by kernel_rfl
 exact(show Tryz.prog.wantsStandIn t=false by simpa using List.all_eq_true.1 hall t hm)
theorem grants_holds:Rows.TopGrantsUptoCardSaid:=
 Claim7.holds_tied_plain_at .later [] _ _ _ _ grants_said (fun _ h=>by cases h) (by kernel_rfl) (fun _ h=>by cases h) topGrantsUpto_row_tie rfl ⟨rfl,rfl⟩ (by kernel_rfl) rfl grants_plain (by kernel_rfl)
end
end Go.Proofs.YtaccidkgnkmagaaGreatDoor.Top
