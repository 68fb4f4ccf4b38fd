/-
  Walks and laws of the whole machine: Ref05. Conditions: each theorem names its own.
-/
import Derived.Test.YtaccidkgnkmagaaGreatDoorTs23
set_option maxRecDepth 16000
set_option maxHeartbeats 12800000
set_option linter.unusedVariables false
set_option linter.unusedSimpArgs false
namespace Go.Proofs.YtaccidkgnkmagaaGreatDoor.Top
open Go.RowKit
theorem sl_loadCell1{P:Program}{n c b o:Nat}{l:List (Array Value)}{X:Nat->Prop}{W:World}(h:Sl 1 (.slice (some ⟨b,o,none⟩) n c) l X W){i:Nat}{v:Value}(hr:l[i]? =some #[v]){T:TypeId}(hagg:(isAgg T).run P W= .ok false W):
  (loadVar T ⟨b,o+i,none⟩).run P W= .ok v W:=by
 obtain⟨b',o',e1,_,_,hrs,hc⟩:=h.row hr (by decide);injection e1 with e1;injection e1 with e2 e3;subst e2 e3;have:=hc 0 v rfl;rw[Nat.mul_one,Nat.add_zero] at this;simp[loadVar,hagg,this]
def bigB(lP:List (Array Value))(wl:List (List (Array Value)))(lC:List (Array Value)):Bool:=decide (4<lP.length\/3<wl.length\/6<lC.length)
theorem take_any{wl:List (List (Array Value))}{i:Nat}{l:List (Array Value)}(h:wl[i]? =some l)(p:List (Array Value)->Bool):(wl.take (i+1)).any p=((wl.take i).any p||p l):=by
 rw[List.take_add_one,h];simp
theorem ref05_any(vP:Value)(lP:List (Array Value))(fr:Int)(vW:Value)(lW:List (Array Value))(wl:List (List (Array Value)))(vC:Value)(lC:List (Array Value))(X0:Nat->Prop)(w:World)(hX: ∀b,X0 b->b<w.heap.size)(hG:vw vP lP vW lW wl vC lC X0 w)(hT:ZJ lP wl lC)(hf0: -9223372036854775808<=fr)(hf1:fr<=9223372036854775807):
  Calls Tryz.prog 10 #[.agg (PLC vP fr vW vC)] w fun e w'=>e= .returned (.int .i64 (yv fr lP wl lC))/\Below w.heap.size w w':=by
 have hwl:=hG.2.2.1.1;obtain⟨AP,cP,rfl,_,_⟩:=hG.1.len;obtain⟨AW,cW,eW,_,_⟩:=hG.2.1.len;rw[hwl] at eW;subst eW;obtain⟨AC,cC,rfl,_,_⟩:=hG.2.2.2.len;have k:Hid (St (fun _=>False) X0 w [] (vw (.slice AP lP.length cP) lP (.slice AW wl.length cW) lW wl (.slice AC lC.length cC) lC) X0 w):=St.begin hX hG (gV _ _ _ _ _ _ _);have HT:=Lib.hid hT;have HWL:=Lib.hid hwl;have hPl:=hT.Pl;have hWl:=hT.Wl;have hCl:=hT.Cl;clear hG hT hwl;go_enter Tryz.func10,Tryz.ntmps10
 go_upto_region 1 with((with_reducible refine zI ?_);refine bxa k (T:=26) rfl ?_;clear k;intro c26 X W k)
 try simp only[Act.put,tS,t0,t1]
 go_cut [3] from 13 to 28 (fun s3 W=>s3= .bool (bigB lP wl lC)/\Hid (Stay (fun _=>False) X0 w [(c26,PLC (.slice AP lP.length cP) fr (.slice AW wl.length cW) (.slice AC lC.length cC),26)] (vw (.slice AP lP.length cP) lP (.slice AW wl.length cW) lW wl (.slice AC lC.length cC) lC) W))
 case first=>
  by_cases c0:4<lP.length
  ·have d0:decide ((4:Int)<lP.length)=true:=decide_eq_true (by omega)
   have hb:bigB lP wl lC=true:=decide_eq_true (by omega);go_wp2_with(first|((with_reducible refine zp ?_);first|go_big_skip)|((with_reducible refine zz ?_);refine ld1 k rfl rfl (by repeat constructor) (by first|with_reducible assumption|rfl) ?_))
   go_meet
   exact⟨by rw[hb],zj ⟨_,k.out⟩⟩
  ·have d0:decide ((4:Int)<lP.length)=false:=decide_eq_false (by omega)
   by_cases c1:3<wl.length
   ·have d1:decide ((3:Int)<wl.length)=true:=decide_eq_true (by omega)
    have hb:bigB lP wl lC=true:=decide_eq_true (by omega);go_wp2_with(first|((with_reducible refine zp ?_);first|go_big_skip|refine zg rfl rfl rfl (by with_reducible rfl) ?_)|((with_reducible refine zz ?_);refine ld1 k rfl rfl (by repeat constructor) (by first|with_reducible assumption|rfl) ?_))
    go_meet
    exact⟨by rw[hb],zj ⟨_,k.out⟩⟩
   ·have d1:decide ((3:Int)<wl.length)=false:=decide_eq_false (by omega)
    by_cases c2:6<lC.length
    ·have d2:decide ((6:Int)<lC.length)=true:=decide_eq_true (by omega)
     have hb:bigB lP wl lC=true:=decide_eq_true (by omega);go_wp2_with(first|((with_reducible refine zp ?_);first|refine zg rfl rfl rfl (by with_reducible rfl) ?_)|((with_reducible refine zz ?_);refine ld1 k rfl rfl (by repeat constructor) (by first|with_reducible assumption|rfl) ?_))
     go_meet
     exact⟨by rw[hb],zj ⟨_,k.out⟩⟩
    ·have d2:decide ((6:Int)<lC.length)=false:=decide_eq_false (by omega)
     have hb:bigB lP wl lC=false:=decide_eq_false (by omega);go_wp2_with(first|((with_reducible refine zp ?_);first|refine zg rfl rfl rfl (by with_reducible rfl) ?_)|((with_reducible refine zz ?_);refine ld1 k rfl rfl (by repeat constructor) (by first|with_reducible assumption|rfl) ?_))
     go_meet
     exact⟨by rw[hb],zj ⟨_,k.out⟩⟩
 case rest=>
 obtain⟨rfl,hS⟩:=hcut;obtain⟨X,kS⟩:=hS.out;clear k hS;have k:=zj kS;clear kS;go_wp2_with fail
 go_loopw [3,4] (fun s3 i W=> ∃(B:Bool) (kk:Nat),kk<=wl.length/\s3= .bool B/\i= .int .i64 kk/\Hid (B=(bigB lP wl lC||(wl.take kk).any (fun l=>decide (8<l.length))))/\Hid (Stay (fun _=>False) X0 w [(c26,PLC (.slice AP lP.length cP) fr (.slice AW wl.length cW) (.slice AC lC.length cC),26)] (vw (.slice AP lP.length cP) lP (.slice AW wl.length cW) lW wl (.slice AC lC.length cC) lC) W)) (fun _ i _=>wl.length-(intOf i).toNat)
 case atStart=>exact⟨_,0,Nat.zero_le _,rfl,rfl,zj (by simp),zj ⟨_,k.out⟩⟩
 case round=>
  as_aux_lemma=>
  obtain⟨B,kk,hkk,rfl,rfl,hB,hS⟩:=hrel;obtain⟨X,kS⟩:=hS.out;clear k hS;have k:=zj kS;clear kS;by_cases hlt:kk<wl.length
  ·obtain⟨l,hl⟩: ∃l,wl[kk]? =some l:=⟨_,List.getElem?_eq_getElem hlt⟩
   obtain⟨r0,hr0⟩: ∃r0,lW[kk]? =some r0:=⟨_,List.getElem?_eq_getElem (by rw[HWL.out];exact hlt)⟩;obtain⟨A,c,rfl,_⟩:=k.out.fact.2.2.1.2 kk r0 l hr0 hl;obtain⟨bw,ow,eA,_⟩:=k.out.fact.2.1.row hr0 (by decide);have HR0:=Lib.hid hr0;have HTK:=Lib.hid (take_any hl (fun l=>decide (8<l.length)));have HEA:=Lib.hid eA;subst eA;have HD:=zj k.out.fact.2.1;clear hr0 hl HEA;have hki:(kk:Int)<wl.length:=by omega
   cases B with
   |true=>
    clear HD;go_wp2_with(first|((with_reducible refine zp ?_);first|go_big_skip)|((with_reducible refine zz ?_);refine ld1 k rfl rfl (by repeat constructor) (by first|with_reducible assumption|rfl) ?_))
    go_roundw
    case rel=>exact⟨true,kk+1,by omega,rfl,by go_num,zj (by rw[HTK.out,<-Bool.or_assoc,<-hB.out];rfl),zj ⟨_,k.out⟩⟩
    case measure=>simp[intOf];omega
   |false=>
    go_wp2_with(first|((with_reducible refine zz ?_);refine qx rfl rfl HD.out HR0.out rfl ⟨_,rfl,rfl⟩ (Tryz.isAgg59 _) ?_)|(first|((with_reducible refine zp ?_);first|refine zg rfl rfl rfl (by with_reducible rfl) ?_)|((with_reducible refine zz ?_);refine ld1 k rfl rfl (by repeat constructor) (by first|with_reducible assumption|rfl) ?_)))
    go_roundw
    case rel=>exact⟨_,kk+1,by omega,rfl,by go_num,zj (by rw[HTK.out,<-Bool.or_assoc,<-hB.out];simp;omega),zj ⟨_,k.out⟩⟩
    case measure=>simp[intOf];omega
  ·have hki:(wl.length:Int)<=kk:=by omega
   have hB2:B=(bigB lP wl lC||wl.any (fun l=>decide (8<l.length))):=by rw[hB.out,List.take_of_length_le (by omega)]
   have HB2:=Lib.hid hB2;clear hB hB2;cases B with
   |true=>
    have hv:yv fr lP wl lC=4:=by
     have h1:=HB2.out.symm;rw[Bool.or_eq_true] at h1;rw[yv,if_pos];rcases h1 with h1|h1
     ·have:=of_decide_eq_true h1
      omega
     ·exact .inr (.inr (.inr h1))
    have HV:=Lib.hid hv;clear hv;go_wp2_with((with_reducible refine zz ?_);refine ld1 k rfl rfl (by repeat constructor) (by first|with_reducible assumption|rfl) ?_);exact bodyPost_ret (zh rfl rfl) rfl ⟨by rw[HV.out],k.out.end⟩
   |false=>
   have hnb: ¬(4<lP.length\/3<wl.length\/6<lC.length\/wl.any (fun l=>decide (8<l.length))=true):=by
    have h1:=HB2.out.symm;rw[Bool.or_eq_false_iff] at h1;have h2:=of_decide_eq_false h1.1;rintro(h|h|h|h)
    ·exact h2 (.inl h)
    ·exact h2 (.inr (.inl h))
    ·exact h2 (.inr (.inr h))
    ·rw[h1.2] at h;cases h
   have HV1:Hid (yv fr lP wl lC=if lP.length=0\/wl.length=0 then 1 else if lP.any (fun r=> !gv r)=true\/fr<1\/4096<fr then 1 else if jY lP.length fr wl≠0 then jY lP.length fr wl else if lC.any (fun r=> !qI lP.length r)=true then 1 else 0):=by
    rw[yv,if_neg hnb];exact zj rfl
   clear hnb HB2;by_cases z1:lP.length=0
   ·have e1:((lP.length:Int)==0)=true:=by rw[beq_iff_eq];omega
    have hv:yv fr lP wl lC=1:=by rw[HV1.out,if_pos (.inl z1)]
    have HV:=Lib.hid hv;clear hv z1;go_wp2_with(first|((with_reducible refine zp ?_);first|go_big_skip)|((with_reducible refine zz ?_);refine ld1 k rfl rfl (by repeat constructor) (by first|with_reducible assumption|rfl) ?_));exact bodyPost_ret (zh rfl rfl) rfl ⟨by rw[HV.out],k.out.end⟩
   have e1:((lP.length:Int)==0)=false:=by rw[beq_eq_false_iff_ne];omega
   by_cases z2:wl.length=0
   ·have e2:((wl.length:Int)==0)=true:=by rw[beq_iff_eq];omega
    have hv:yv fr lP wl lC=1:=by rw[HV1.out,if_pos (.inr z2)]
    have HV:=Lib.hid hv;clear hv z1 z2;go_wp2_with(first|((with_reducible refine zp ?_);first|refine zg rfl rfl rfl (by with_reducible rfl) ?_)|((with_reducible refine zz ?_);refine ld1 k rfl rfl (by repeat constructor) (by first|with_reducible assumption|rfl) ?_));exact bodyPost_ret (zh rfl rfl) rfl ⟨by rw[HV.out],k.out.end⟩
   have e2:((wl.length:Int)==0)=false:=by rw[beq_eq_false_iff_ne];omega
   have HV2:Hid (yv fr lP wl lC=if lP.any (fun r=> !gv r)=true\/fr<1\/4096<fr then 1 else if jY lP.length fr wl≠0 then jY lP.length fr wl else if lC.any (fun r=> !qI lP.length r)=true then 1 else 0):=by
    rw[HV1.out,if_neg (by omega)];exact zj rfl
   clear HV1 z1 z2;go_wp2_with(first|((with_reducible refine zp ?_);first|refine zg rfl rfl rfl (by with_reducible rfl) ?_)|((with_reducible refine zz ?_);refine ld1 k rfl rfl (by repeat constructor) (by first|with_reducible assumption|rfl) ?_));clear e1 e2
   go_loopw [5] (fun i W=> ∃kk:Nat,kk<=lP.length/\i= .int .i64 kk/\Hid (∀j r,j<kk->lP[j]? =some r->gv r=true)/\Hid (Stay (fun _=>False) X0 w [(c26,PLC (.slice AP lP.length cP) fr (.slice AW wl.length cW) (.slice AC lC.length cC),26)] (vw (.slice AP lP.length cP) lP (.slice AW wl.length cW) lW wl (.slice AC lC.length cC) lC) W)) (fun i _=>lP.length-(intOf i).toNat)
   case atStart=>exact⟨0,Nat.zero_le _,rfl,zj (fun j r h=>by omega),zj ⟨_,k.out⟩⟩
   case round=>
    as_aux_lemma=>
    obtain⟨kk,hkk,rfl,hQ,hS⟩:=hrel;obtain⟨X,kS⟩:=hS.out;clear k hS;have k:=zj kS;clear kS;by_cases hlt:kk<lP.length
    ·obtain⟨r,hr⟩: ∃r,lP[kk]? =some r:=⟨_,List.getElem?_eq_getElem hlt⟩
     obtain⟨m,a0,a1,a2,rfl,hm0,hm1⟩:=part_lit (HT.out.P r (List.mem_of_getElem? hr));obtain⟨bq,oq,eA,_⟩:=k.out.fact.1.row hr (by decide);have HR:=Lib.hid hr;have HEA:=Lib.hid eA;subst eA;have HD:=zj k.out.fact.1;have HBAD:Hid (vu m a0 a1 a2=false->yv fr lP wl lC=1):=fun h=>by
      have hbad:lP.any (fun r=> !gv r)=true:=List.any_eq_true.2 ⟨_,List.mem_of_getElem? hr,by simp[gv,zQ,h]⟩;rw[HV2.out,if_pos (.inl hbad)]
     clear hr HEA;have hki:(kk:Int)<lP.length:=by omega
     go_upto_region 14 with(first|((with_reducible refine zz ?_);refine xV rfl rfl HD.out HR.out (by decide) rfl ⟨_,rfl,rfl⟩ (Tryz.isAgg76 _) (Tryz.sizeOf76 _) ?_)|(first|((with_reducible refine zz ?_);refine ld1 k rfl rfl (by repeat constructor) (by first|with_reducible assumption|rfl) ?_)|((with_reducible refine zx ?_);refine soa k rfl rfl rfl (by repeat constructor) (by first|with_reducible assumption|rfl) (by first|with_reducible assumption|rfl) (by first|exact zm rfl|assumption) ?_;clear k;intro W k)|((with_reducible refine zf ?_);refine ala k Tryz.zeroValue76 ?_;clear k;intro b76 X W k)))
     clear HD;replace k:Hid (St _ _ _ [(b76,#[.int .i64 m,.int .i64 a0,.int .i64 a1,.int .i64 a2],_),(c26,PLC _ fr _ _,_)] _ _ _):=k;by_cases m1:m<64
     ·have d1:decide (m<64)=true:=decide_eq_true m1
      have HV:Hid (yv fr lP wl lC=1):=HBAD.out (by
       unfold vu;simp only[show decide (64<=m)=false from decide_eq_false (by omega),Bool.false_and])
      clear m1;go_wp2_with(first|((with_reducible refine zp ?_);first|go_big_skip)|((with_reducible refine zz ?_);refine ld1 k rfl rfl (by repeat constructor) (by first|with_reducible assumption|rfl) ?_));exact bodyPost_ret (zh rfl rfl) rfl ⟨by rw[HV.out],k.out.end⟩
     have d1:decide (m<64)=false:=decide_eq_false m1;by_cases m2:1024<m
     ·have d2:decide (1024<m)=true:=decide_eq_true m2
      have HV:Hid (yv fr lP wl lC=1):=HBAD.out (by
       unfold vu;simp only[show decide (m<=1024)=false from decide_eq_false (by omega),Bool.and_false,Bool.false_and])
      clear m1 m2;go_wp2_with(first|((with_reducible refine zp ?_);first|go_big_skip|refine zg rfl rfl rfl (by with_reducible rfl) ?_)|((with_reducible refine zz ?_);refine ld1 k rfl rfl (by repeat constructor) (by first|with_reducible assumption|rfl) ?_));exact bodyPost_ret (zh rfl rfl) rfl ⟨by rw[HV.out],k.out.end⟩
     have d2:decide (1024<m)=false:=decide_eq_false m2;have htm:m.tmod 4=m% 4:=Int.tmod_eq_emod_of_nonneg (by omega);by_cases m3:m% 4=0
     ·have d3:(m% 4 !=0)=false:=by rw[bne_eq_false_iff_eq];exact m3
      have HM:Hid (64<=m/\m<=1024/\m% 4=0):=⟨by omega,by omega,m3⟩;clear m1 m2 m3;go_wp2_with(first|((with_reducible refine zp ?_);first|refine zg rfl rfl rfl (by with_reducible rfl) ?_)|((with_reducible refine zz ?_);refine ld1 k rfl rfl (by repeat constructor) (by first|with_reducible assumption|rfl) ?_));clear d1 d2 d3 htm
      go_loopw [7] (fun i W=> ∃q:Nat,q<=3/\i= .int .i64 q/\Hid ((0<q->jE a0=false)/\(1<q->jE a1=false)/\(2<q->jE a2=false))/\Hid (Stay (fun _=>False) X0 w [(b76,#[.int .i64 m,.int .i64 a0,.int .i64 a1,.int .i64 a2],76),(c26,PLC (.slice (some ⟨bq,oq,none⟩) lP.length cP) fr (.slice AW wl.length cW) (.slice AC lC.length cC),26)] (vw (.slice (some ⟨bq,oq,none⟩) lP.length cP) lP (.slice AW wl.length cW) lW wl (.slice AC lC.length cC) lC) W)) (fun i _=>3-(intOf i).toNat)
      case atStart=>exact⟨0,Nat.zero_le _,rfl,zj ⟨fun h=>by omega,fun h=>by omega,fun h=>by omega⟩,zj ⟨_,k.out⟩⟩
      case round=>
       as_aux_lemma=>
       obtain⟨q,hq,rfl,hO,hS⟩:=hrel;obtain⟨X,kS⟩:=hS.out;clear k hS;have k:=zj kS;clear kS;have hq4:q=0\/q=1\/q=2\/q=3:=by omega
       rcases hq4 with rfl|rfl|rfl|rfl
       ·by_cases g1:a0<1
        ·have d1:decide (a0<1)=true:=decide_eq_true g1
         have ho:jE a0=true:=by simp[jE,g1]
         have HV:Hid (yv fr lP wl lC=1):=HBAD.out (by simp[vu,ho]);go_wp2_with((with_reducible refine zz ?_);refine ld1 k rfl rfl (by repeat constructor) (by first|with_reducible assumption|rfl) ?_);exact bodyPost_ret (zh rfl rfl) rfl ⟨by rw[HV.out],k.out.end⟩
        ·have d1:decide (a0<1)=false:=decide_eq_false g1
         by_cases g2:3<a0
         ·have d2:decide (3<a0)=true:=decide_eq_true g2
          have ho:jE a0=true:=by simp[jE,g2]
          have HV:Hid (yv fr lP wl lC=1):=HBAD.out (by simp[vu,ho]);go_wp2_with(first|((with_reducible refine zp ?_);first|refine zg rfl rfl rfl (by with_reducible rfl) ?_)|((with_reducible refine zz ?_);refine ld1 k rfl rfl (by repeat constructor) (by first|with_reducible assumption|rfl) ?_));exact bodyPost_ret (zh rfl rfl) rfl ⟨by rw[HV.out],k.out.end⟩
         ·have d2:decide (3<a0)=false:=decide_eq_false g2
          have ho:jE a0=false:=by simp[jE,d1,d2]
          have HO:Hid (jE a0=false):=ho;clear g1 g2 ho;go_wp2_with(first|((with_reducible refine zp ?_);first|refine zg rfl rfl rfl (by with_reducible rfl) ?_)|((with_reducible refine zz ?_);refine ld1 k rfl rfl (by repeat constructor) (by first|with_reducible assumption|rfl) ?_))
          go_roundw
          case rel=>exact⟨1,by omega,by go_num,zj ⟨fun _=>HO.out,fun h=>by omega,fun h=>by omega⟩,zj ⟨_,k.out⟩⟩
          case measure=>simp[intOf]
       ·by_cases g1:a1<1
        ·have d1:decide (a1<1)=true:=decide_eq_true g1
         have ho:jE a1=true:=by simp[jE,g1]
         have HV:Hid (yv fr lP wl lC=1):=HBAD.out (by simp[vu,ho]);go_wp2_with((with_reducible refine zz ?_);refine ld1 k rfl rfl (by repeat constructor) (by first|with_reducible assumption|rfl) ?_);exact bodyPost_ret (zh rfl rfl) rfl ⟨by rw[HV.out],k.out.end⟩
        ·have d1:decide (a1<1)=false:=decide_eq_false g1
         by_cases g2:3<a1
         ·have d2:decide (3<a1)=true:=decide_eq_true g2
          have ho:jE a1=true:=by simp[jE,g2]
          have HV:Hid (yv fr lP wl lC=1):=HBAD.out (by simp[vu,ho]);go_wp2_with(first|((with_reducible refine zp ?_);first|refine zg rfl rfl rfl (by with_reducible rfl) ?_)|((with_reducible refine zz ?_);refine ld1 k rfl rfl (by repeat constructor) (by first|with_reducible assumption|rfl) ?_));exact bodyPost_ret (zh rfl rfl) rfl ⟨by rw[HV.out],k.out.end⟩
         ·have d2:decide (3<a1)=false:=decide_eq_false g2
          have ho:jE a1=false:=by simp[jE,d1,d2]
          have HO:Hid (jE a1=false):=ho;clear g1 g2 ho;go_wp2_with(first|((with_reducible refine zp ?_);first|refine zg rfl rfl rfl (by with_reducible rfl) ?_)|((with_reducible refine zz ?_);refine ld1 k rfl rfl (by repeat constructor) (by first|with_reducible assumption|rfl) ?_))
          go_roundw
          case rel=>exact⟨2,by omega,by go_num,zj ⟨fun _=>hO.out.1 (by omega),fun _=>HO.out,fun h=>by omega⟩,zj ⟨_,k.out⟩⟩
          case measure=>simp[intOf]
       ·by_cases g1:a2<1
        ·have d1:decide (a2<1)=true:=decide_eq_true g1
         have ho:jE a2=true:=by simp[jE,g1]
         have HV:Hid (yv fr lP wl lC=1):=HBAD.out (by simp[vu,ho]);go_wp2_with((with_reducible refine zz ?_);refine ld1 k rfl rfl (by repeat constructor) (by first|with_reducible assumption|rfl) ?_);exact bodyPost_ret (zh rfl rfl) rfl ⟨by rw[HV.out],k.out.end⟩
        ·have d1:decide (a2<1)=false:=decide_eq_false g1
         by_cases g2:3<a2
         ·have d2:decide (3<a2)=true:=decide_eq_true g2
          have ho:jE a2=true:=by simp[jE,g2]
          have HV:Hid (yv fr lP wl lC=1):=HBAD.out (by simp[vu,ho]);go_wp2_with(first|((with_reducible refine zp ?_);first|refine zg rfl rfl rfl (by with_reducible rfl) ?_)|((with_reducible refine zz ?_);refine ld1 k rfl rfl (by repeat constructor) (by first|with_reducible assumption|rfl) ?_));exact bodyPost_ret (zh rfl rfl) rfl ⟨by rw[HV.out],k.out.end⟩
         ·have d2:decide (3<a2)=false:=decide_eq_false g2
          have ho:jE a2=false:=by simp[jE,d1,d2]
          have HO:Hid (jE a2=false):=ho;clear g1 g2 ho;go_wp2_with(first|((with_reducible refine zp ?_);first|refine zg rfl rfl rfl (by with_reducible rfl) ?_)|((with_reducible refine zz ?_);refine ld1 k rfl rfl (by repeat constructor) (by first|with_reducible assumption|rfl) ?_))
          go_roundw
          case rel=>exact⟨3,by omega,by go_num,zj ⟨fun _=>hO.out.1 (by omega),fun _=>hO.out.2.1 (by omega),fun _=>HO.out⟩,zj ⟨_,k.out⟩⟩
          case measure=>simp[intOf]
       ·have hok:vu m a0 a1 a2=true:=by
         obtain⟨h1,h2,h3⟩:=HM.out;obtain⟨o1,o2,o3⟩:=hO.out;simp[vu,h1,h2,h3,o1 (by omega),o2 (by omega),o3 (by omega)]
        have HOK:=Lib.hid hok;clear hok hO;go_wp2_with fail
        go_roundw
        case rel=>
         refine⟨kk+1,by omega,by go_num,zj (fun j r hj hr=> ?_),zj ⟨_,k.out.drop (n:=1)⟩⟩;rcases Nat.lt_or_ge j kk with h|h
         ·exact hQ.out j r h hr
         ·obtain rfl:j=kk:=by omega
          rw[HR.out] at hr;injection hr with hr;subst hr;simpa[gv,zQ] using HOK.out
        case measure=>simp[intOf];omega
     ·have d3:(m% 4 !=0)=true:=by rw[bne_iff_ne];exact m3
      have HV:Hid (yv fr lP wl lC=1):=HBAD.out (by
       unfold vu;simp only[show decide (m% 4=0)=false from decide_eq_false m3,Bool.and_false,Bool.false_and])
      clear m1 m2 m3;go_wp2_with(first|((with_reducible refine zp ?_);first|refine zg rfl rfl rfl (by with_reducible rfl) ?_)|((with_reducible refine zz ?_);refine ld1 k rfl rfl (by repeat constructor) (by first|with_reducible assumption|rfl) ?_));exact bodyPost_ret (zh rfl rfl) rfl ⟨by rw[HV.out],k.out.end⟩
    ·have hki:(lP.length:Int)<=kk:=by omega
     have hall: ¬(lP.any (fun r=> !gv r)=true):=fun h=>by
      obtain⟨r,hr,hp⟩:=List.any_eq_true.1 h;obtain⟨j,hj⟩:=List.getElem?_of_mem hr;have:=hQ.out j r (by have:=(List.getElem?_eq_some_iff.1 hj).1;omega) hj;simp[this] at hp
     have HALL:=Lib.hid hall;clear hall hQ;by_cases f1:fr<1
     ·have d4:decide (fr<1)=true:=decide_eq_true f1
      have HV:Hid (yv fr lP wl lC=1):=by
       rw[HV2.out,if_pos (.inr (.inl f1))];exact zj rfl
      clear f1;go_wp2_with(first|((with_reducible refine zp ?_);first|go_big_skip)|((with_reducible refine zz ?_);refine ld1 k rfl rfl (by repeat constructor) (by first|with_reducible assumption|rfl) ?_));exact bodyPost_ret (zh rfl rfl) rfl ⟨by rw[HV.out],k.out.end⟩
     have d4:decide (fr<1)=false:=decide_eq_false f1;by_cases f2:4096<fr
     ·have d5:decide (4096<fr)=true:=decide_eq_true f2
      have HV:Hid (yv fr lP wl lC=1):=by
       rw[HV2.out,if_pos (.inr (.inr f2))];exact zj rfl
      clear f1 f2;go_wp2_with(first|((with_reducible refine zp ?_);first|refine zg rfl rfl rfl (by with_reducible rfl) ?_)|((with_reducible refine zz ?_);refine ld1 k rfl rfl (by repeat constructor) (by first|with_reducible assumption|rfl) ?_));exact bodyPost_ret (zh rfl rfl) rfl ⟨by rw[HV.out],k.out.end⟩
     have d5:decide (4096<fr)=false:=decide_eq_false f2;have HV3:Hid (yv fr lP wl lC=if jY lP.length fr wl≠0 then jY lP.length fr wl else if lC.any (fun r=> !qI lP.length r)=true then 1 else 0):=by
      rw[HV2.out,if_neg (by rintro(h|h|h);exact HALL.out h;exact f1 h;exact f2 h)];exact zj rfl
     have HFR:Hid (1<=fr/\fr<=4096):=⟨by omega,by omega⟩;clear f1 f2 HV2;go_wp2_with(first|((with_reducible refine zp ?_);first|refine zg rfl rfl rfl (by with_reducible rfl) ?_)|((with_reducible refine zz ?_);refine ld1 k rfl rfl (by repeat constructor) (by first|with_reducible assumption|rfl) ?_));clear d4 d5
     go_loopw [8] (fun i W=> ∃kk:Nat,kk<=wl.length/\i= .int .i64 kk/\Hid (jY lP.length fr wl=jY lP.length fr (wl.drop kk))/\Hid (Stay (fun _=>False) X0 w [(c26,PLC (.slice AP lP.length cP) fr (.slice AW wl.length cW) (.slice AC lC.length cC),26)] (vw (.slice AP lP.length cP) lP (.slice AW wl.length cW) lW wl (.slice AC lC.length cC) lC) W)) (fun i _=>wl.length-(intOf i).toNat)
     case atStart=>exact⟨0,Nat.zero_le _,rfl,zj rfl,zj ⟨_,k.out⟩⟩
     case round=>
      as_aux_lemma=>
      obtain⟨kk,hkk,rfl,hE,hS⟩:=hrel;obtain⟨X,kS⟩:=hS.out;clear k hS;have k:=zj kS;clear kS;by_cases hlt:kk<wl.length
      ·obtain⟨l,hl⟩: ∃l,wl[kk]? =some l:=⟨_,List.getElem?_eq_getElem hlt⟩
       obtain⟨r0,hr0⟩: ∃r0,lW[kk]? =some r0:=⟨_,List.getElem?_eq_getElem (by rw[HWL.out];exact hlt)⟩;obtain⟨A,c,rfl,_⟩:=k.out.fact.2.2.1.2 kk r0 l hr0 hl;obtain⟨bw,ow,eA,_⟩:=k.out.fact.2.1.row hr0 (by decide);have HR0:=Lib.hid hr0;have HL0:=Lib.hid hl;have HEA:=Lib.hid eA;subst eA;have hl8:=HT.out.wl l (List.mem_of_getElem? hl);have HLT:Hid (∀r∈l,Ty kWin r):=HT.out.W l (List.mem_of_getElem? hl);have HE1:Hid (jY lP.length fr wl=if wsE lP.length fr 0 l≠0 then wsE lP.length fr 0 l else jY lP.length fr (wl.drop (kk+1))):=by
        rw[hE.out,wssE_step hl];exact zj rfl
       clear hr0 hl HEA hE;have hki:(kk:Int)<wl.length:=by omega
       go_wp2_with((with_reducible refine zz ?_);refine ld1 k rfl rfl (by repeat constructor) (by first|with_reducible assumption|rfl) ?_)
       go_loopw [9] (fun j W=> ∃(jj:Nat) (bb:Int),jj<=l.length/\j= .int .i64 jj/\Hid (wsE lP.length fr 0 l=wsE lP.length fr bb (l.drop jj))/\Hid ((jj=0->bb=0)/\(∀j',jj=j'+1-> ∃p' f' l':Int,l[j']? =some #[.int .i64 p',.int .i64 f',.int .i64 l']/\bb=f'+l')/\0<=bb/\bb<=4096)/\Hid (Stay (fun _=>False) X0 w [(c26,PLC (.slice AP lP.length cP) fr (.slice (some ⟨bw,ow,none⟩) wl.length cW) (.slice AC lC.length cC),26)] (vw (.slice AP lP.length cP) lP (.slice (some ⟨bw,ow,none⟩) wl.length cW) lW wl (.slice AC lC.length cC) lC) W)) (fun j _=>l.length-(intOf j).toNat)
       case atStart=>exact⟨0,0,Nat.zero_le _,rfl,zj rfl,zj ⟨fun _=>rfl,fun j' h=>by omega,by omega,by omega⟩,zj ⟨_,k.out⟩⟩
       case round=>
        as_aux_lemma=>
        obtain⟨jj,bb,hjj,rfl,hE2,hBB,hS⟩:=hrel;obtain⟨X,kS⟩:=hS.out;clear k hS;have k:=zj kS;clear kS;have HD:=zj k.out.fact.2.1;by_cases hlt2:jj<l.length
        ·obtain⟨r,hr⟩: ∃r,l[jj]? =some r:=⟨_,List.getElem?_eq_getElem hlt2⟩
         obtain⟨p,f,l2,rfl,hl20,hl21⟩:=win_lit (HLT.out r (List.mem_of_getElem? hr));have hsl:=k.out.fact.2.2.1.at HR0.out HL0.out;obtain⟨bl,ol,eB,_⟩:=hsl.row hr (by decide);have HEB:=Lib.hid eB;subst eB;have HD2:=zj hsl;have HRR:=Lib.hid hr;have HE3:Hid (wsE lP.length fr 0 l=if vk lP.length fr p f l2 bb≠0 then vk lP.length fr p f l2 bb else wsE lP.length fr (f+l2) (l.drop (jj+1))):=by
          rw[hE2.out,wsE_step hr];exact zj rfl
         have HVE:Hid (∀E:Int,vk lP.length fr p f l2 bb=E->E≠0->yv fr lP wl lC=E):=fun E hw h0=>by
          have h1:wsE lP.length fr 0 l=E:=by rw[HE3.out,hw,if_pos h0]
          have h2:jY lP.length fr wl=E:=by rw[HE1.out,h1,if_pos h0]
          rw[HV3.out,h2,if_pos h0]
         clear hr hsl HEB hE2;have hji:(jj:Int)<l.length:=by omega
         go_upto_region 30 with(first|((with_reducible refine zz ?_);first|(refine qx rfl rfl HD.out HR0.out rfl ⟨_,rfl,rfl⟩ (Tryz.isAgg59 _) ?_)|(refine xV rfl rfl HD2.out HRR.out (by decide) rfl ⟨_,rfl,rfl⟩ (Tryz.isAgg61 _) (Tryz.sizeOf61 _) ?_))|(first|((with_reducible refine zz ?_);refine ld1 k rfl rfl (by repeat constructor) (by first|with_reducible assumption|rfl) ?_)|((with_reducible refine zx ?_);refine soa k rfl rfl rfl (by repeat constructor) (by first|with_reducible assumption|rfl) (by first|with_reducible assumption|rfl) (by first|exact zm rfl|assumption) ?_;clear k;intro W k)|((with_reducible refine zf ?_);refine ala k Tryz.zeroValue61 ?_;clear k;intro b61 X W k)))
         clear HD HD2;replace k:Hid (St _ _ _ [(b61,#[.int .i64 p,.int .i64 f,.int .i64 l2],_),(c26,PLC (.slice AP lP.length cP) fr _ (.slice AC lC.length cC),_)] _ _ _):=k;by_cases h0:p<0
         ·have d0:decide (p<0)=true:=decide_eq_true h0
          have HV:Hid (yv fr lP wl lC=1):=HVE.out 1 (by rw[vk,if_pos (by omega)]) (by decide);go_wp2_with(first|((with_reducible refine zp ?_);first|go_big_skip)|((with_reducible refine zz ?_);refine ld1 k rfl rfl (by repeat constructor) (by first|with_reducible assumption|rfl) ?_));exact bodyPost_ret (zh rfl rfl) rfl ⟨by rw[HV.out],k.out.end⟩
         have d0:decide (p<0)=false:=decide_eq_false h0;by_cases h1:(lP.length:Int)<=p
         ·have d1:decide ((lP.length:Int)<=p)=true:=decide_eq_true h1
          have HV:Hid (yv fr lP wl lC=1):=HVE.out 1 (by rw[vk,if_pos (by omega)]) (by decide);go_wp2_with(first|((with_reducible refine zp ?_);first|go_big_skip|refine zg rfl rfl rfl (by with_reducible rfl) ?_)|((with_reducible refine zz ?_);refine ld1 k rfl rfl (by repeat constructor) (by first|with_reducible assumption|rfl) ?_));exact bodyPost_ret (zh rfl rfl) rfl ⟨by rw[HV.out],k.out.end⟩
         have d1:decide ((lP.length:Int)<=p)=false:=decide_eq_false h1;by_cases h2:f<0
         ·have d2:decide (f<0)=true:=decide_eq_true h2
          have HV:Hid (yv fr lP wl lC=1):=HVE.out 1 (by rw[vk,if_pos (by omega)]) (by decide);go_wp2_with(first|((with_reducible refine zp ?_);first|go_big_skip|refine zg rfl rfl rfl (by with_reducible rfl) ?_)|((with_reducible refine zz ?_);refine ld1 k rfl rfl (by repeat constructor) (by first|with_reducible assumption|rfl) ?_));exact bodyPost_ret (zh rfl rfl) rfl ⟨by rw[HV.out],k.out.end⟩
         have d2:decide (f<0)=false:=decide_eq_false h2;by_cases h3:fr<f
         ·have d3:decide (fr<f)=true:=decide_eq_true h3
          have HV:Hid (yv fr lP wl lC=1):=HVE.out 1 (by rw[vk,if_pos (by omega)]) (by decide);go_wp2_with(first|((with_reducible refine zp ?_);first|go_big_skip|refine zg rfl rfl rfl (by with_reducible rfl) ?_)|((with_reducible refine zz ?_);refine ld1 k rfl rfl (by repeat constructor) (by first|with_reducible assumption|rfl) ?_));exact bodyPost_ret (zh rfl rfl) rfl ⟨by rw[HV.out],k.out.end⟩
         have d3:decide (fr<f)=false:=decide_eq_false h3;by_cases h4:l2<3
         ·have d4:decide (l2<3)=true:=decide_eq_true h4
          have HV:Hid (yv fr lP wl lC=1):=HVE.out 1 (by rw[vk,if_pos (by omega)]) (by decide);go_wp2_with(first|((with_reducible refine zp ?_);first|go_big_skip|refine zg rfl rfl rfl (by with_reducible rfl) ?_)|((with_reducible refine zz ?_);refine ld1 k rfl rfl (by repeat constructor) (by first|with_reducible assumption|rfl) ?_));exact bodyPost_ret (zh rfl rfl) rfl ⟨by rw[HV.out],k.out.end⟩
         have d4:decide (l2<3)=false:=decide_eq_false h4;have hww:IntKind.i64.wrap (fr-f)=fr-f:=xg (by have:=HFR.out;omega) (by have:=HFR.out;omega);by_cases h5:fr-f<l2
         ·have d5:decide (fr-f<l2)=true:=decide_eq_true h5
          have HV:Hid (yv fr lP wl lC=1):=HVE.out 1 (by rw[vk,if_pos (by omega)]) (by decide);go_wp2_with(first|((with_reducible refine zp ?_);first|refine zg rfl rfl rfl (by with_reducible rfl) ?_)|((with_reducible refine zz ?_);refine ld1 k rfl rfl (by repeat constructor) (by first|with_reducible assumption|rfl) ?_));exact bodyPost_ret (zh rfl rfl) rfl ⟨by rw[HV.out],k.out.end⟩
         have d5:decide (fr-f<l2)=false:=decide_eq_false h5;have HW:Hid (0<=p/\p<lP.length/\0<=f/\f<=fr/\3<=l2/\l2<=fr-f):=⟨by omega,by omega,by omega,by omega,by omega,by omega⟩;have hfr:=HFR.out;clear h0 h1 h2 h3 h4 h5;cases jj with
         |zero=>
          have hb0:bb=0:=hBB.out.1 rfl;have HWE:Hid (vk lP.length fr p f l2 bb=0):=by
           have:=HW.out;rw[vk,if_neg (by omega),if_neg (by omega)];exact zj rfl
          have HE5:Hid (wsE lP.length fr 0 l=wsE lP.length fr (f+l2) (l.drop (0+1))):=by
           rw[HE3.out,HWE.out,if_neg (by decide)];exact zj rfl
          clear hb0
          go_upto_region 32 with(first|((with_reducible refine zp ?_);first|refine zg rfl rfl rfl (by with_reducible rfl) ?_)|((with_reducible refine zz ?_);refine ld1 k rfl rfl (by repeat constructor) (by first|with_reducible assumption|rfl) ?_))
          have HPer:=Lib.hid k.out.per;refine zt k 28 28 (by kernel_rfl) rfl ?_;clear k;intro W k;refine zq [(0,some 170,[]),(1,some 171,[]),(2,some 172,[]),(3,some 173,[]),(4,some 174,[]),(5,some 175,[]),(6,some 176,[]),(7,some 177,[]),(8,some 178,[]),(9,some 179,[]),(10,some 180,[]),(11,some 181,[]),(12,some 182,[]),(13,some 183,[]),(14,some 184,[]),(15,some 185,[]),(16,some 186,[]),(17,some 187,[]),(18,some 188,[]),(19,some 189,[]),(20,some 190,[]),(21,some 191,[]),(22,some 192,[]),(23,some 193,[]),(24,some 194,[]),(25,some 195,[]),(26,some 196,[]),(27,some 197,[])] [?v1_0,?v1_1,?v1_2,undef,undef,undef,undef,undef,undef,undef,undef,undef,undef,undef,undef,undef,undef,undef,undef,undef,undef,undef,undef,undef,undef,undef,undef,?v1_27] 0 (by kernel_rfl) ⟨_,k.out⟩ ?l1 ?h1;case l1=>
           intro w' hSw;iterate 3
            refine lkw rfl rfl (by rfl) ?_ ?_
            ·go_simp<;>with_reducible rfl
            try simp only[Act.put,tS,t0,t1]
           iterate 24
            refine lks rfl rfl (by rfl) ?_;try simp only[Act.put,tS,t0,t1]
           refine lkw rfl rfl (by rfl) ?_ ?_
           ·go_simp<;>with_reducible rfl
           try simp only[Act.put,tS,t0,t1]
           trivial
          simp only[zw,zk,Act.put,tS,t0,t1];refine zv (by kernel_rfl) ?_ _;clear HPer;go_wp2_with fail
          go_roundw
          case rel=>exact⟨0+1,f+l2,by omega,by go_num,HE5,zj ⟨fun h=>by omega,fun j' h=>⟨p,f,l2,by rw[show j'=0 by omega];exact HRR.out,rfl⟩,by have:=HW.out;omega,by have:=HW.out;omega⟩,zj ⟨_,k.out.drop (n:=1)⟩⟩
          case measure=>simp[intOf];omega
         |succ j'=>
          obtain⟨p',f',l',hpv,hbb⟩:=hBB.out.2.1 j' rfl;have hbr:=hBB.out.2.2;have hwr:IntKind.i64.wrap (f'+l')=f'+l':=xg (by omega) (by omega);have hjw:IntKind.i64.wrap (j':Int)=j':=xg (by omega) (by omega);have hj0:(0:Int)<(j':Int)+1:=by omega
          have hjl:(j':Int)<l.length:=by omega
          go_upto_region 32 with(first|((with_reducible refine zp ?_);first|refine zg rfl rfl rfl (by with_reducible rfl) ?_)|((with_reducible refine zz ?_);refine ld1 k rfl rfl (by repeat constructor) (by first|with_reducible assumption|rfl) ?_))
          have HPer:=Lib.hid k.out.per;refine zt k 28 28 (by kernel_rfl) rfl ?_;clear k;intro W k;refine zq [(0,some 170,[]),(1,some 171,[]),(2,some 172,[]),(3,some 173,[]),(4,some 174,[]),(5,some 175,[]),(6,some 176,[]),(7,some 177,[]),(8,some 178,[]),(9,some 179,[]),(10,some 180,[]),(11,some 181,[]),(12,some 182,[]),(13,some 183,[]),(14,some 184,[]),(15,some 185,[]),(16,some 186,[]),(17,some 187,[]),(18,some 188,[]),(19,some 189,[]),(20,some 190,[]),(21,some 191,[]),(22,some 192,[]),(23,some 193,[]),(24,some 194,[]),(25,some 195,[]),(26,some 196,[]),(27,some 197,[])] [?v2_0,?v2_1,?v2_2,?v2_3,?v2_4,?v2_5,?v2_6,?v2_7,?v2_8,?v2_9,?v2_10,?v2_11,?v2_12,?v2_13,?v2_14,?v2_15,?v2_16,?v2_17,?v2_18,?v2_19,?v2_20,?v2_21,?v2_22,?v2_23,?v2_24,?v2_25,?v2_26,?v2_27] 0 (by kernel_rfl) ⟨_,k.out⟩ ?l2 ?h2;case l2=>
           intro w' hSw;iterate 9
            refine lkw rfl rfl (by rfl) ?_ ?_
            ·first|((with_reducible refine yw ?_);first|exact hSw.l1 rfl rfl (by repeat constructor) (by first|with_reducible assumption|rfl))|(go_simp<;>with_reducible rfl)
            try simp only[Act.put,tS,t0,t1]
           refine lkw rfl rfl (by rfl) ?_ ?_
           ·refine yG rfl ?_
            obtain⟨X',hX'⟩:=hSw.get;exact sl_loadCell1 hX'.2.1 HR0.out (Tryz.isAgg59 _)
           try simp only[Act.put,tS,t0,t1]
           iterate 4
            refine lkw rfl rfl (by rfl) ?_ ?_
            ·go_simp<;>with_reducible rfl
            try simp only[Act.put,tS,t0,t1]
           refine lkw rfl rfl (by rfl) ?_ ?_
           ·refine yG rfl ?_
            obtain⟨X',hX'⟩:=hSw.get;exact ql (hX'.2.2.1.at HR0.out HL0.out) hpv (by decide) (j:=1) rfl (Tryz.isAgg3 _)
           try simp only[Act.put,tS,t0,t1]
           iterate 4
            refine lkw rfl rfl (by rfl) ?_ ?_
            ·first|((with_reducible refine yw ?_);first|exact hSw.l1 rfl rfl (by repeat constructor) (by first|with_reducible assumption|rfl))|(go_simp<;>with_reducible rfl)
            try simp only[Act.put,tS,t0,t1]
           refine lkw rfl rfl (by rfl) ?_ ?_
           ·refine yG rfl ?_
            obtain⟨X',hX'⟩:=hSw.get;exact sl_loadCell1 hX'.2.1 HR0.out (Tryz.isAgg59 _)
           try simp only[Act.put,tS,t0,t1]
           iterate 4
            refine lkw rfl rfl (by rfl) ?_ ?_
            ·go_simp<;>with_reducible rfl
            try simp only[Act.put,tS,t0,t1]
           refine lkw rfl rfl (by rfl) ?_ ?_
           ·refine yG rfl ?_
            obtain⟨X',hX'⟩:=hSw.get;exact ql (hX'.2.2.1.at HR0.out HL0.out) hpv (by decide) (j:=2) rfl (Tryz.isAgg3 _)
           try simp only[Act.put,tS,t0,t1]
           iterate 3
            refine lkw rfl rfl (by rfl) ?_ ?_
            ·go_simp<;>with_reducible rfl
            try simp only[Act.put,tS,t0,t1]
           trivial
          simp only[zw,zk,Act.put,tS,t0,t1];refine zv (by kernel_rfl) ?_ _;clear HPer;by_cases h9:f<f'+l'
          ·have d9:decide (f<f'+l')=true:=decide_eq_true h9
           have HV:Hid (yv fr lP wl lC=9):=HVE.out 9 (by have:=HW.out;rw[vk,if_neg (by omega),if_pos (by omega)]) (by decide);clear hbb;go_wp2_with fail;exact bodyPost_ret (zh rfl rfl) rfl ⟨by rw[HV.out],k.out.end⟩
          ·have d9:decide (f<f'+l')=false:=decide_eq_false h9
           have HE5:Hid (wsE lP.length fr 0 l=wsE lP.length fr (f+l2) (l.drop (j'+1+1))):=by
            have h0:vk lP.length fr p f l2 bb=0:=by
             have:=HW.out;rw[vk,if_neg (by omega),if_neg (by omega)]
            rw[HE3.out,h0,if_neg (by decide)];exact zj rfl
           clear hbb;go_wp2_with fail
           go_roundw
           case rel=>exact⟨j'+1+1,f+l2,by omega,by go_num,HE5,zj ⟨fun h=>by omega,fun j'' h=>⟨p,f,l2,by rw[show j''=j'+1 by omega];exact HRR.out,rfl⟩,by have:=HW.out;omega,by have:=HW.out;omega⟩,zj ⟨_,k.out.drop (n:=1)⟩⟩
           case measure=>simp[intOf];omega
        ·have hji:(l.length:Int)<=jj:=by omega
         have h0:wsE lP.length fr 0 l=0:=by
          rw[hE2.out,List.drop_eq_nil_of_le (by omega),wsE]
         have HE4:Hid (jY lP.length fr wl=jY lP.length fr (wl.drop (kk+1))):=by
          rw[HE1.out,if_neg (by rw[h0];decide)];exact zj rfl
         clear h0 hE2;go_wp2_with(first|((with_reducible refine zz ?_);first|(refine qx rfl rfl HD.out HR0.out rfl ⟨_,rfl,rfl⟩ (Tryz.isAgg59 _) ?_))|((with_reducible refine zz ?_);refine ld1 k rfl rfl (by repeat constructor) (by first|with_reducible assumption|rfl) ?_));clear HD
         go_roundw
         case rel=>exact⟨kk+1,by omega,by go_num,HE4,zj ⟨_,k.out⟩⟩
         case measure=>simp[intOf];omega
      ·have hki:(wl.length:Int)<=kk:=by omega
       have HV4:Hid (yv fr lP wl lC=if lC.any (fun r=> !qI lP.length r)=true then 1 else 0):=by
        have h0:jY lP.length fr wl=0:=by rw[hE.out,List.drop_eq_nil_of_le (by omega),jY]
        rw[HV3.out,h0,if_neg (by decide)];exact zj rfl
       clear hE;go_wp2_with((with_reducible refine zz ?_);refine ld1 k rfl rfl (by repeat constructor) (by first|with_reducible assumption|rfl) ?_)
       go_loopw [11] (fun i W=> ∃kk:Nat,kk<=lC.length/\i= .int .i64 kk/\Hid (∀j r,j<kk->lC[j]? =some r->qI lP.length r=true)/\Hid (Stay (fun _=>False) X0 w [(c26,PLC (.slice AP lP.length cP) fr (.slice AW wl.length cW) (.slice AC lC.length cC),26)] (vw (.slice AP lP.length cP) lP (.slice AW wl.length cW) lW wl (.slice AC lC.length cC) lC) W)) (fun i _=>lC.length-(intOf i).toNat)
       case atStart=>exact⟨0,Nat.zero_le _,rfl,zj (fun j r h=>by omega),zj ⟨_,k.out⟩⟩
       case round=>
        as_aux_lemma=>
        obtain⟨kk,hkk,rfl,hQ,hS⟩:=hrel;obtain⟨X,kS⟩:=hS.out;clear k hS;have k:=zj kS;clear kS;by_cases hlt:kk<lC.length
        ·obtain⟨r,hr⟩: ∃r,lC[kk]? =some r:=⟨_,List.getElem?_eq_getElem hlt⟩
         obtain⟨k0,f,t,s,d,rfl⟩:=ZX (HT.out.C r (List.mem_of_getElem? hr));obtain⟨bq,oq,eA,_⟩:=k.out.fact.2.2.2.row hr (by decide);have HR:=Lib.hid hr;have HEA:=Lib.hid eA;subst eA;have HD:=zj k.out.fact.2.2.2;have HBAD:Hid (qv lP.length k0 f t s d=false->yv fr lP wl lC=1):=fun h=>by
          have hbad:lC.any (fun r=> !qI lP.length r)=true:=List.any_eq_true.2 ⟨_,List.mem_of_getElem? hr,by simp[qI,zQ,h]⟩;rw[HV4.out,if_pos hbad]
         clear hr HEA;have hki:(kk:Int)<lC.length:=by omega
         go_upto_region 38 with(first|((with_reducible refine zz ?_);refine xV rfl rfl HD.out HR.out (by decide) rfl ⟨_,rfl,rfl⟩ (Tryz.isAgg87 _) (Tryz.sizeOf87 _) ?_)|(first|((with_reducible refine zz ?_);refine ld1 k rfl rfl (by repeat constructor) (by first|with_reducible assumption|rfl) ?_)|((with_reducible refine zx ?_);refine soa k rfl rfl rfl (by repeat constructor) (by first|with_reducible assumption|rfl) (by first|with_reducible assumption|rfl) (by first|exact zm rfl|assumption) ?_;clear k;intro W k)|((with_reducible refine zf ?_);refine ala k Tryz.zeroValue87 ?_;clear k;intro b87 X W k)))
         clear HD;replace k:Hid (St _ _ _ [(b87,#[.int .i64 k0,.int .i64 f,.int .i64 t,.int .i64 s,.int .i64 d],_),(c26,PLC (.slice AP lP.length cP) fr _ _,_)] _ _ _):=k;by_cases hk1:k0=1
         ·subst hk1
          by_cases h0:f<0
          ·have d0:decide (f<0)=true:=decide_eq_true h0
           have HV:Hid (yv fr lP wl lC=1):=HBAD.out (by rw[qv];exact decide_eq_false (by omega));go_wp2_with(first|((with_reducible refine zp ?_);first|go_big_skip|refine zg rfl rfl rfl (by with_reducible rfl) ?_)|((with_reducible refine zz ?_);refine ld1 k rfl rfl (by repeat constructor) (by first|with_reducible assumption|rfl) ?_));exact bodyPost_ret (zh rfl rfl) rfl ⟨by rw[HV.out],k.out.end⟩
          have d0:decide (f<0)=false:=decide_eq_false h0;by_cases h1:(lP.length:Int)<=f
          ·have d1:decide ((lP.length:Int)<=f)=true:=decide_eq_true h1
           have HV:Hid (yv fr lP wl lC=1):=HBAD.out (by rw[qv];exact decide_eq_false (by omega));go_wp2_with(first|((with_reducible refine zp ?_);first|go_big_skip|refine zg rfl rfl rfl (by with_reducible rfl) ?_)|((with_reducible refine zz ?_);refine ld1 k rfl rfl (by repeat constructor) (by first|with_reducible assumption|rfl) ?_));exact bodyPost_ret (zh rfl rfl) rfl ⟨by rw[HV.out],k.out.end⟩
          have d1:decide ((lP.length:Int)<=f)=false:=decide_eq_false h1;by_cases h2:t<0
          ·have d2:decide (t<0)=true:=decide_eq_true h2
           have HV:Hid (yv fr lP wl lC=1):=HBAD.out (by rw[qv];exact decide_eq_false (by omega));go_wp2_with(first|((with_reducible refine zp ?_);first|go_big_skip|refine zg rfl rfl rfl (by with_reducible rfl) ?_)|((with_reducible refine zz ?_);refine ld1 k rfl rfl (by repeat constructor) (by first|with_reducible assumption|rfl) ?_));exact bodyPost_ret (zh rfl rfl) rfl ⟨by rw[HV.out],k.out.end⟩
          have d2:decide (t<0)=false:=decide_eq_false h2;by_cases h3:(lP.length:Int)<=t
          ·have d3:decide ((lP.length:Int)<=t)=true:=decide_eq_true h3
           have HV:Hid (yv fr lP wl lC=1):=HBAD.out (by rw[qv];exact decide_eq_false (by omega));go_wp2_with(first|((with_reducible refine zp ?_);first|go_big_skip|refine zg rfl rfl rfl (by with_reducible rfl) ?_)|((with_reducible refine zz ?_);refine ld1 k rfl rfl (by repeat constructor) (by first|with_reducible assumption|rfl) ?_));exact bodyPost_ret (zh rfl rfl) rfl ⟨by rw[HV.out],k.out.end⟩
          have d3:decide ((lP.length:Int)<=t)=false:=decide_eq_false h3;by_cases h4:f=t
          ·have d4:(f==t)=true:=by rw[beq_iff_eq];exact h4
           have HV:Hid (yv fr lP wl lC=1):=HBAD.out (by rw[qv];exact decide_eq_false (by omega));clear h4;go_wp2_with(first|((with_reducible refine zp ?_);first|go_big_skip|refine zg rfl rfl rfl (by with_reducible rfl) ?_)|((with_reducible refine zz ?_);refine ld1 k rfl rfl (by repeat constructor) (by first|with_reducible assumption|rfl) ?_));exact bodyPost_ret (zh rfl rfl) rfl ⟨by rw[HV.out],k.out.end⟩
          have d4:(f==t)=false:=by rw[beq_eq_false_iff_ne];exact h4
          by_cases h5:s<1
          ·have d5:decide (s<1)=true:=decide_eq_true h5
           have HV:Hid (yv fr lP wl lC=1):=HBAD.out (by rw[qv];exact decide_eq_false (by omega));go_wp2_with(first|((with_reducible refine zp ?_);first|go_big_skip|refine zg rfl rfl rfl (by with_reducible rfl) ?_)|((with_reducible refine zz ?_);refine ld1 k rfl rfl (by repeat constructor) (by first|with_reducible assumption|rfl) ?_));exact bodyPost_ret (zh rfl rfl) rfl ⟨by rw[HV.out],k.out.end⟩
          have d5:decide (s<1)=false:=decide_eq_false h5;by_cases h6:32<s
          ·have d6:decide (32<s)=true:=decide_eq_true h6
           have HV:Hid (yv fr lP wl lC=1):=HBAD.out (by rw[qv];exact decide_eq_false (by omega));go_wp2_with(first|((with_reducible refine zp ?_);first|go_big_skip|refine zg rfl rfl rfl (by with_reducible rfl) ?_)|((with_reducible refine zz ?_);refine ld1 k rfl rfl (by repeat constructor) (by first|with_reducible assumption|rfl) ?_));exact bodyPost_ret (zh rfl rfl) rfl ⟨by rw[HV.out],k.out.end⟩
          have d6:decide (32<s)=false:=decide_eq_false h6;by_cases h7:d<1
          ·have d7:decide (d<1)=true:=decide_eq_true h7
           have HV:Hid (yv fr lP wl lC=1):=HBAD.out (by rw[qv];exact decide_eq_false (by omega));go_wp2_with(first|((with_reducible refine zp ?_);first|go_big_skip|refine zg rfl rfl rfl (by with_reducible rfl) ?_)|((with_reducible refine zz ?_);refine ld1 k rfl rfl (by repeat constructor) (by first|with_reducible assumption|rfl) ?_));exact bodyPost_ret (zh rfl rfl) rfl ⟨by rw[HV.out],k.out.end⟩
          have d7:decide (d<1)=false:=decide_eq_false h7;by_cases h8:8<d
          ·have d8:decide (8<d)=true:=decide_eq_true h8
           have HV:Hid (yv fr lP wl lC=1):=HBAD.out (by rw[qv];exact decide_eq_false (by omega));go_wp2_with(first|((with_reducible refine zp ?_);first|go_big_skip|refine zg rfl rfl rfl (by with_reducible rfl) ?_)|((with_reducible refine zz ?_);refine ld1 k rfl rfl (by repeat constructor) (by first|with_reducible assumption|rfl) ?_));exact bodyPost_ret (zh rfl rfl) rfl ⟨by rw[HV.out],k.out.end⟩
          have d8:decide (8<d)=false:=decide_eq_false h8;by_cases h9:d=1
          ·have d9:(d !=1)=false:=by rw[bne_eq_false_iff_eq];exact h9
           have hok:qv lP.length 1 f t s d=true:=by rw[qv];exact decide_eq_true (by omega)
           have HOK:=Lib.hid hok;clear hok h4 h9;go_wp2_with(first|((with_reducible refine zp ?_);first|go_big_skip|refine zg rfl rfl rfl (by with_reducible rfl) ?_)|((with_reducible refine zz ?_);refine ld1 k rfl rfl (by repeat constructor) (by first|with_reducible assumption|rfl) ?_))
           go_roundw
           case rel=>
            refine⟨kk+1,by omega,by go_num,zj (fun j r hj hr=> ?_),zj ⟨_,k.out.drop (n:=1)⟩⟩;rcases Nat.lt_or_ge j kk with h|h
            ·exact hQ.out j r h hr
            ·obtain rfl:j=kk:=by omega
             rw[HR.out] at hr;injection hr with hr;subst hr;simpa[qI,zQ] using HOK.out
           case measure=>simp[intOf];omega
          ·have d9:(d !=1)=true:=by rw[bne_iff_ne];exact h9
           have HV:Hid (yv fr lP wl lC=1):=HBAD.out (by rw[qv];exact decide_eq_false (by omega));go_wp2_with(first|((with_reducible refine zp ?_);first|go_big_skip|refine zg rfl rfl rfl (by with_reducible rfl) ?_)|((with_reducible refine zz ?_);refine ld1 k rfl rfl (by repeat constructor) (by first|with_reducible assumption|rfl) ?_));exact bodyPost_ret (zh rfl rfl) rfl ⟨by rw[HV.out],k.out.end⟩
         ·have dk1:(k0 !=1)=true:=by rw[bne_iff_ne];exact hk1
          by_cases hk2:k0=2
          ·subst hk2
           by_cases h0:f<0
           ·have d0:decide (f<0)=true:=decide_eq_true h0
            have HV:Hid (yv fr lP wl lC=1):=HBAD.out (by rw[qv];exact decide_eq_false (by omega));go_wp2_with(first|((with_reducible refine zp ?_);first|go_big_skip|refine zg rfl rfl rfl (by with_reducible rfl) ?_)|((with_reducible refine zz ?_);refine ld1 k rfl rfl (by repeat constructor) (by first|with_reducible assumption|rfl) ?_));exact bodyPost_ret (zh rfl rfl) rfl ⟨by rw[HV.out],k.out.end⟩
           have d0:decide (f<0)=false:=decide_eq_false h0;by_cases h1:(lP.length:Int)<=f
           ·have d1:decide ((lP.length:Int)<=f)=true:=decide_eq_true h1
            have HV:Hid (yv fr lP wl lC=1):=HBAD.out (by rw[qv];exact decide_eq_false (by omega));go_wp2_with(first|((with_reducible refine zp ?_);first|go_big_skip|refine zg rfl rfl rfl (by with_reducible rfl) ?_)|((with_reducible refine zz ?_);refine ld1 k rfl rfl (by repeat constructor) (by first|with_reducible assumption|rfl) ?_));exact bodyPost_ret (zh rfl rfl) rfl ⟨by rw[HV.out],k.out.end⟩
           have d1:decide ((lP.length:Int)<=f)=false:=decide_eq_false h1;by_cases h2:t<0
           ·have d2:decide (t<0)=true:=decide_eq_true h2
            have HV:Hid (yv fr lP wl lC=1):=HBAD.out (by rw[qv];exact decide_eq_false (by omega));go_wp2_with(first|((with_reducible refine zp ?_);first|go_big_skip|refine zg rfl rfl rfl (by with_reducible rfl) ?_)|((with_reducible refine zz ?_);refine ld1 k rfl rfl (by repeat constructor) (by first|with_reducible assumption|rfl) ?_));exact bodyPost_ret (zh rfl rfl) rfl ⟨by rw[HV.out],k.out.end⟩
           have d2:decide (t<0)=false:=decide_eq_false h2;by_cases h3:(lP.length:Int)<=t
           ·have d3:decide ((lP.length:Int)<=t)=true:=decide_eq_true h3
            have HV:Hid (yv fr lP wl lC=1):=HBAD.out (by rw[qv];exact decide_eq_false (by omega));go_wp2_with(first|((with_reducible refine zp ?_);first|go_big_skip|refine zg rfl rfl rfl (by with_reducible rfl) ?_)|((with_reducible refine zz ?_);refine ld1 k rfl rfl (by repeat constructor) (by first|with_reducible assumption|rfl) ?_));exact bodyPost_ret (zh rfl rfl) rfl ⟨by rw[HV.out],k.out.end⟩
           have d3:decide ((lP.length:Int)<=t)=false:=decide_eq_false h3;by_cases h4:f=t
           ·have d4:(f==t)=true:=by rw[beq_iff_eq];exact h4
            have HV:Hid (yv fr lP wl lC=1):=HBAD.out (by rw[qv];exact decide_eq_false (by omega));clear h4;go_wp2_with(first|((with_reducible refine zp ?_);first|refine zg rfl rfl rfl (by with_reducible rfl) ?_)|((with_reducible refine zz ?_);refine ld1 k rfl rfl (by repeat constructor) (by first|with_reducible assumption|rfl) ?_));exact bodyPost_ret (zh rfl rfl) rfl ⟨by rw[HV.out],k.out.end⟩
           have d4:(f==t)=false:=by rw[beq_eq_false_iff_ne];exact h4
           by_cases h5:s<1
           ·have d5:decide (s<1)=true:=decide_eq_true h5
            have HV:Hid (yv fr lP wl lC=1):=HBAD.out (by rw[qv];exact decide_eq_false (by omega));go_wp2_with(first|((with_reducible refine zp ?_);first|go_big_skip|refine zg rfl rfl rfl (by with_reducible rfl) ?_)|((with_reducible refine zz ?_);refine ld1 k rfl rfl (by repeat constructor) (by first|with_reducible assumption|rfl) ?_));exact bodyPost_ret (zh rfl rfl) rfl ⟨by rw[HV.out],k.out.end⟩
           have d5:decide (s<1)=false:=decide_eq_false h5;by_cases h6:32<s
           ·have d6:decide (32<s)=true:=decide_eq_true h6
            have HV:Hid (yv fr lP wl lC=1):=HBAD.out (by rw[qv];exact decide_eq_false (by omega));go_wp2_with(first|((with_reducible refine zp ?_);first|go_big_skip|refine zg rfl rfl rfl (by with_reducible rfl) ?_)|((with_reducible refine zz ?_);refine ld1 k rfl rfl (by repeat constructor) (by first|with_reducible assumption|rfl) ?_));exact bodyPost_ret (zh rfl rfl) rfl ⟨by rw[HV.out],k.out.end⟩
           have d6:decide (32<s)=false:=decide_eq_false h6;by_cases h7:d<1
           ·have d7:decide (d<1)=true:=decide_eq_true h7
            have HV:Hid (yv fr lP wl lC=1):=HBAD.out (by rw[qv];exact decide_eq_false (by omega));go_wp2_with(first|((with_reducible refine zp ?_);first|go_big_skip|refine zg rfl rfl rfl (by with_reducible rfl) ?_)|((with_reducible refine zz ?_);refine ld1 k rfl rfl (by repeat constructor) (by first|with_reducible assumption|rfl) ?_));exact bodyPost_ret (zh rfl rfl) rfl ⟨by rw[HV.out],k.out.end⟩
           have d7:decide (d<1)=false:=decide_eq_false h7;by_cases h8:8<d
           ·have d8:decide (8<d)=true:=decide_eq_true h8
            have HV:Hid (yv fr lP wl lC=1):=HBAD.out (by rw[qv];exact decide_eq_false (by omega));go_wp2_with(first|((with_reducible refine zp ?_);first|go_big_skip|refine zg rfl rfl rfl (by with_reducible rfl) ?_)|((with_reducible refine zz ?_);refine ld1 k rfl rfl (by repeat constructor) (by first|with_reducible assumption|rfl) ?_));exact bodyPost_ret (zh rfl rfl) rfl ⟨by rw[HV.out],k.out.end⟩
           have d8:decide (8<d)=false:=decide_eq_false h8;have hok:qv lP.length 2 f t s d=true:=by rw[qv];exact decide_eq_true (by omega)
           have HOK:=Lib.hid hok;clear hok h4;go_wp2_with(first|((with_reducible refine zp ?_);first|go_big_skip|refine zg rfl rfl rfl (by with_reducible rfl) ?_)|((with_reducible refine zz ?_);refine ld1 k rfl rfl (by repeat constructor) (by first|with_reducible assumption|rfl) ?_))
           go_roundw
           case rel=>
            refine⟨kk+1,by omega,by go_num,zj (fun j r hj hr=> ?_),zj ⟨_,k.out.drop (n:=1)⟩⟩;rcases Nat.lt_or_ge j kk with h|h
            ·exact hQ.out j r h hr
            ·obtain rfl:j=kk:=by omega
             rw[HR.out] at hr;injection hr with hr;subst hr;simpa[qI,zQ] using HOK.out
           case measure=>simp[intOf];omega
          ·have dk2:(k0 !=2)=true:=by rw[bne_iff_ne];exact hk2
           have HV:Hid (yv fr lP wl lC=1):=HBAD.out (by rw[qv];exact decide_eq_false (by omega));go_wp2_with(first|((with_reducible refine zp ?_);first|go_big_skip|refine zg rfl rfl rfl (by with_reducible rfl) ?_)|((with_reducible refine zz ?_);refine ld1 k rfl rfl (by repeat constructor) (by first|with_reducible assumption|rfl) ?_));exact bodyPost_ret (zh rfl rfl) rfl ⟨by rw[HV.out],k.out.end⟩
        ·have hki:(lC.length:Int)<=kk:=by omega
         have hall: ¬(lC.any (fun r=> !qI lP.length r)=true):=fun h=>by
          obtain⟨r,hr,hp⟩:=List.any_eq_true.1 h;obtain⟨j,hj⟩:=List.getElem?_of_mem hr;have:=hQ.out j r (by have:=(List.getElem?_eq_some_iff.1 hj).1;omega) hj;simp[this] at hp
         have HV:Hid (yv fr lP wl lC=0):=by
          rw[HV4.out,if_neg hall];exact zj rfl
         clear hall hQ;go_wp2_with((with_reducible refine zz ?_);refine ld1 k rfl rfl (by repeat constructor) (by first|with_reducible assumption|rfl) ?_);exact bodyPost_ret (zh rfl rfl) rfl ⟨by rw[HV.out],k.out.end⟩
end Go.Proofs.YtaccidkgnkmagaaGreatDoor.Top
