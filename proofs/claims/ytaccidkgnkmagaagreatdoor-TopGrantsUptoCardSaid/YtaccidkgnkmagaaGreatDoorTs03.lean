/-
  Walks and laws of the whole machine: Del, Copy, RegionU, Reg. Conditions: each theorem names its own.
-/
import Derived.Test.YtaccidkgnkmagaaGreatDoorTs02
import Derived.Lib.AppendZerosOnto
import Derived.Lib.AppendZeros
import Derived.Lib.Overlaps
import Derived.OrdersHeld
import Derived.Deep.RegionHeld3
import Derived.StillTail
set_option maxRecDepth 16000
set_option maxHeartbeats 12800000
set_option linter.unusedVariables false
set_option linter.unusedSimpArgs false
namespace Go.Proofs.YtaccidkgnkmagaaGreatDoor.Top
open Go.RowKit
section
variable{P:Program}{ops:Array Oper}{rest:List Oper}{o:Oper}{a:Act}{Q:Exit->Act->World->Prop}{w:World}
theorem yJ(hgd:o.guard=none)(T:TypeId)(ho:o.op= .alloc T)(z:Value)(hz:(zeroValue T).run P w= .ok z w)
  (h: ∀w',Blk w' w.heap.size z.cells T->Below w.heap.size w w'->w'.heap.size=w.heap.size+1->wpList P ops Q rest (a.put o.dst (.pointer (some ⟨w.heap.size,0,none⟩))) w'):wpList P ops Q (o::rest) a w:=by
 refine wpList_plain hgd fun K hK=> ?_;have hrun:(Instr.alloc T true (.tuple #[])).run P w= .ok (.pointer (some ⟨w.heap.size,0,none⟩)) (w.alloc (.cells z.cells T)):=by
  simp[Instr.alloc,hz,go_sem]
 unfold Oper.wp execOp;simp only[ho,hrun,Sem.run_bind,Sem.run_pure,Result.andThen_ok];exact hK _ _ (h _ (Zj w _ _) (xw w _) (by simp))
theorem yX(hgd:o.guard=none)(s x:Operand)(T:TypeId)(ho:o.op= .store T s x)(b off:Nat)(hs:a.eval s= .pointer (some ⟨b,off,none⟩))(C:Array Value)(t:TypeId)(hk:Blk w b C t)(v:Value)(hx:a.eval x=v)(D:Array Value)(hv:v.cells=D)
  (hsz:(sizeOf T).run P w= .ok D.size w) (hfit:off+D.size<=C.size) (h1:yZ D)
  (h: ∀w',Blk w' b (patch C off D) t->Below b w w'->w'.heap.size=w.heap.size->w.grownBy w' (some b)->wpList P ops Q rest (a.put o.dst undef) w'):wpList P ops Q (o::rest) a w:=by
 refine wpList_plain hgd fun K hK=> ?_;have hst:=run_storeCells_at (P:=P) b off t D.toList 0 C w hk (by simpa using hfit) h1;simp only[Nat.add_zero,Array.length_toList] at hst;have hrun:(Instr.storeAt T (.pointer (some ⟨b,off,none⟩)) v).run P w= .ok () (w.setRow b (patch C off D)):=by
  simp[Instr.storeAt,Instr.sureAddr,storeVar,hsz,hv,hst,patch]
 unfold Oper.wp execOp;simp only[ho,hs,hx,hrun,Sem.run_bind,Sem.run_pure,Result.andThen_ok];exact hK _ _ (h _ (Zq hk _) (vG (Below.refl _ _) (Nat.le_refl _) _) (by simp[World.setRow]) ⟨rfl,rfl,rfl,by simp[World.setRow],fun k _ hk=>setRow_other _ _ _ _ (fun e=>hk (by rw[e]))⟩)
end
theorem qG(p:Array Value->Bool)(l:List (Array Value)):(jx p l= -1/\l.filter (fun r=> !p r)=l)\/ ∃i:Nat,jx p l=i/\i<l.length/\(l.take i).filter (fun r=> !p r)=l.take i/\ ∃r,l[i]? =some r/\p r=true:=by
 unfold jx;cases h:l.findIdx? p with
 |none=>
  refine .inl ⟨rfl,?_⟩;rw[List.findIdx?_eq_none_iff] at h;exact List.filter_eq_self.2 (fun r hr=>by simp[h r hr])
 |some i=>
  refine .inr ⟨i,rfl,?_⟩;rw[List.findIdx?_eq_some_iff_getElem] at h;obtain⟨hi,hp,hn⟩:=h;refine⟨hi,?_,l[i],List.getElem?_eq_getElem hi,hp⟩;refine List.filter_eq_self.2 (fun r hr=> ?_);obtain⟨j,hj,rfl⟩:=List.getElem_of_mem hr;have hj':j<i:=by rw[List.length_take] at hj;omega
  have:=hn j hj';simp only[List.getElem_take];simpa using this
structure Mid (p:Array Value->Bool) (l cur:List (Array Value)) (i j:Nat):Prop where
 len:cur.length=l.length
 lt:i<j
 le:j<=l.length
 mem: ∀r∈cur,r∈l
 kept:cur.take i=(l.take j).filter fun r=> !p r
 rest:cur.drop j=l.drop j
theorem ZZ{p:Array Value->Bool}{l:List (Array Value)}{i:Nat}(hi:i<l.length)(hk:(l.take i).filter (fun r=> !p r)=l.take i)(hp: ∃r,l[i]? =some r/\p r=true):Mid p l l i (i+1):=by
 obtain⟨r,hr,hp⟩:=hp;refine⟨rfl,by omega,by omega,fun _ h=>h,?_,rfl⟩;have e:l.take (i+1)=l.take i++ [r]:=by
  rw[List.take_add_one,hr];rfl
 rw[e,List.filter_append,hk];simp[hp]
theorem Mid.row{p:Array Value->Bool}{l cur:List (Array Value)}{i j:Nat}(h:Mid p l cur i j)(_hj:j<l.length):cur[j]? =l[j]? :=by
 have e1:cur[j]? =(cur.drop j)[0]? :=by rw[List.getElem?_drop];rfl
 have e2:l[j]? =(l.drop j)[0]? :=by rw[List.getElem?_drop];rfl
 rw[e1,e2,h.rest]
theorem Mid.gone{p:Array Value->Bool}{l cur:List (Array Value)}{i j:Nat}(h:Mid p l cur i j){r:Array Value}(hr:l[j]? =some r)(hp:p r=true):Mid p l cur i (j+1):=by
 have hj:j<l.length:=(List.getElem?_eq_some_iff.1 hr).1;refine⟨h.len,by have:=h.lt;omega,hj,h.mem,?_,?_⟩
 ·have e:l.take (j+1)=l.take j++ [r]:=by rw[List.take_add_one,hr];rfl
  rw[e,List.filter_append,h.kept];simp[hp]
 ·have:=congrArg (List.drop 1) h.rest
  rw[List.drop_drop,List.drop_drop] at this;exact this
theorem Mid.keep{p:Array Value->Bool}{l cur:List (Array Value)}{i j:Nat}(h:Mid p l cur i j){r:Array Value}(hr:l[j]? =some r)(hp:p r=false):Mid p l (cur.set i r) (i+1) (j+1):=by
 have hj:j<l.length:=(List.getElem?_eq_some_iff.1 hr).1;have hij:=h.lt;have hlen:=h.len;refine⟨by simpa using h.len,by omega,hj,?_,?_,?_⟩
 ·intro x hx
  rcases List.mem_or_eq_of_mem_set hx with hx|rfl
  ·exact h.mem x hx
  ·exact List.mem_of_getElem? hr
 ·have e:l.take (j+1)=l.take j++ [r]:=by rw[List.take_add_one,hr];rfl
  have e2:(cur.set i r).take (i+1)=cur.take i++ [r]:=by
   rw[List.take_add_one,List.take_set_of_le (Nat.le_refl _),List.getElem?_set_self (by omega)];rfl
  rw[e,List.filter_append,<-h.kept,e2];simp[hp]
 ·rw[List.drop_set_of_lt (by omega)]
  have:=congrArg (List.drop 1) h.rest;rw[List.drop_drop,List.drop_drop] at this;exact this
theorem row_one{r:Array Value}(h:r.size=1): ∃u,r= #[u]:=by
 obtain⟨l⟩:=r
 match l,h with
 |[u],_=>exact⟨u,rfl⟩
theorem gu{u:Value}(h:u.oneCell'=true):u.cells= #[u]:=by
 cases u<;>first|rfl|cases h
theorem qE{W:World}{b:Nat}{r:Array Value}{T:TypeId}(h:Blk W b r T): ∀j u,r[j]? =some u->W.cell? ⟨b,0+j,none⟩=some u:=fun j u hj=>by
 rw[Nat.zero_add,h.rules.1];exact hj
theorem delChan_any(base:Nat)(v:Value)(l:List (Array Value))(fv:Value)(p:Array Value->Bool)(w:World)(hown:w.ownsRow base 87 5 v l.length (yy l))(hs: ∀r∈l,r.size=5)(h1: ∀r∈l,yZ r)(hbase:base<=w.heap.size)(hp:Zv fv l p base w):
  Calls Tryz.prog 54 #[v,fv] w fun e w'=> ∃v',e= .returned v' /\w'.ownsRow base 87 5 v' (l.filter fun r=> !p r).length (yy (l.filter fun r=> !p r))/\Below base w w':=by
 have hsl:Sl 5 v l (fun _=>False) w:=zV hown hs (fun _ h=>h.elim);have hP:=hp;rcases qG p l with⟨hi,hfl⟩|⟨i0,hi,hlt,hkept,hhit⟩
 ·have HO:=Lib.hid hown
  have HI:=Lib.hid hi;have HF:=Lib.hid hfl;clear hown hi hfl hp;go_enter Tryz.func54,Tryz.ntmps54;go_wp2_with fail;refine(idxChan_any v l fv p _ w hsl base hbase hP).mono ?_;rintro e w1 ⟨rfl,hb⟩;rw[HI.out];go_wp2_with fail
  go_ret
  refine⟨_,rfl,?_,hb.mono hbase⟩;rw[HF.out];exact HO.out.kept (row:=none) ⟨hb.os,hb.tape,hb.output,hb.size,fun k hk _=>hb.block k hk⟩ (Classical.em _)
 ·rcases hown.2 with⟨_,h0⟩|⟨g,cap,cur0,rfl,hbg,_,hnc,hcm,_,_⟩
  ·omega
  obtain⟨F,caps,rfl,hfn,hF⟩:=hp;have HN:=Lib.hid hfn;have HF:=Lib.hid hF;have HO:=Lib.hid hown;have HM:=Lib.hid (ZZ hlt hkept hhit);have HI:=Lib.hid hi;have HS:=Lib.hid hs;have H1:=Lib.hid h1;have hcm':cap<=9223372036854775807:=hcm;have hlm:l.length<=9223372036854775807:=Nat.le_trans hnc hcm';clear hfn hF hown hkept hhit hi hs h1 hcm;go_enter Tryz.func54,Tryz.ntmps54;go_wp2_with fail;refine(idxChan_any _ l _ p _ w hsl base hbase hP).mono ?_;rintro e w1 ⟨rfl,hb⟩;rw[HI.out];have hO1:=HO.out.kept (row:=none) (w':=w1) ⟨hb.os,hb.tape,hb.output,hb.size,fun k hk _=>hb.block k hk⟩ (by simp[Value.ownBlock]);have hB1:=zj (hb.mono hbase);have hb1:base<=w1.heap.size:=Nat.le_trans hbase hb.size;have hg1:g<w1.heap.size:=(hO1.lt g rfl).2;have HO1:=Lib.hid hO1;have hi0:((i0:Int)== -1)=false:=by rw[beq_eq_false_iff_ne];omega
  clear hb HO hsl hP hO1;go_wp2_with fail
  go_loopw [5,6] (fun si sj W=> ∃(i j:Nat) (cur:List (Array Value)),si= .int .i64 i/\sj= .int .i64 j/\i<j/\j<=l.length/\Hid (Mid p l cur i j)/\Hid (W.ownsRow base 87 5 (.slice (some ⟨g,0,none⟩) l.length cap) l.length (yy cur))/\Hid (Below base w W)/\base<=W.heap.size/\g<W.heap.size) (fun _ sj _=>l.length-(intOf sj).toNat)
  case atStart=>exact⟨i0,i0+1,l,by first|rfl|go_num,by first|rfl|go_num,by omega,by omega,HM.out,HO1.out,hB1.out,hb1,hg1⟩
  case round=>
   obtain⟨i,j,cur,rfl,rfl,hij,hjl,hM,hW,hB,hbw,hgw⟩:=hrel;have hcl:=hM.out.len;by_cases hlt:j<l.length
   ·obtain⟨r,hr⟩: ∃r,l[j]? =some r:=⟨l[j],List.getElem?_eq_getElem hlt⟩
    have hrl:=List.mem_of_getElem? hr;have hrs:=HS.out r hrl;have hr1:=H1.out r hrl;have hsl:Sl 5 (.slice (some ⟨g,0,none⟩) l.length cap) cur (fun _=>False) wr:=by
     have:=hW.out;rw[<-hcl] at this⊢;exact zV this (fun x hx=>HS.out x (hM.out.mem x hx)) (fun _ h=>h.elim)
    obtain⟨b,o,hA,hbs,_,_,hcell⟩:=hsl.row (i:=j) (r:=r) ((hM.out.row hlt).trans hr) (by decide);obtain⟨rfl,rfl⟩:g=b/\0=o:=by injection hA with hA;injection hA with h1 h2;exact⟨h1,h2⟩
    have HR:=Lib.hid hr;have HC:=Lib.hid hcell;have hcf: ∀args w,(callFunc F args).run Tryz.prog w= .ok (.enter F args) w:=fun args w=>yk HN.out args;have HQ:=Lib.hid (HF.out r hrl);have hgne:some g≠some wr.heap.size:=by intro e;injection e;omega
    have HGN:=Lib.hid hgne;clear hcell hr hsl hA hrl hgne;go_wp2_with(first|(refine yJ rfl 87 rfl _ (Tryz.zeroValue87 _) ?_;intro W1 hk1 hq1 hs1)|(refine yX rfl (.tmp 7) (.tmp 25) 87 rfl wr.heap.size 0 rfl _ 87 hk1 _ rfl r rfl (by rw[hrs];exact Tryz.sizeOf87 _) (by first|(rw[hrs];decide)|simp[Value.cells]) hr1 ?_;intro W2 hk2 hq2 hs2 hg2;rw[xU _ _ (by rw[hrs];rfl)] at hk2;obtain⟨c0,f0⟩:=hk2.rules)|(refine zZ rfl (.tmp 24) 87 rfl g _ 5 rfl r (Tryz.isAgg87 _) (Tryz.sizeOf87 _) hrs (fun j u hj=>by have:=HC.out j u hj;simpa using this) ?_)|(refine zZ rfl (.tmp 7) 87 rfl wr.heap.size 0 5 rfl r (Tryz.isAgg87 _) (Tryz.sizeOf87 _) hrs (qE hk2) ?_));refine(HQ.out W2 (hB.out.trans ((hq1.mono hbw).trans (hq2.mono hbw)))).mono ?_;rintro e W3 ⟨rfl,hb3⟩;have hW1:=hW.out.kept (row:=none) (w':=W1) ⟨hq1.os,hq1.tape,hq1.output,hq1.size,fun k hk _=>hq1.block k hk⟩ (by simp[Value.ownBlock]);have hW2:=hW1.kept (w':=W2) hg2 (.inr HGN.out);have hW3:=Lib.hid (hW2.kept (row:=none) (w':=W3) ⟨hb3.os,hb3.tape,hb3.output,hb3.size,fun k hk _=>hb3.block k hk⟩ (by simp[Value.ownBlock]));have hB3:=Lib.hid (hB.out.trans ((hq1.mono hbw).trans ((hq2.mono hbw).trans (hb3.mono (by omega)))));have hk3:=hk2.below hb3;have hz3:=hb3.size;have hg3:g<W3.heap.size:=(hW3.out.lt g rfl).2;clear hb3 hW hW1 hW2 hB hk1 hk2 hq1 hq2 hg2 c0 f0 hcf HQ HC;obtain⟨c0,f0⟩:=hk3.rules;cases hpr:p r with
    |true=>
     have HPR:=Lib.hid hpr;clear hpr;go_wp2_with fail
     go_roundw
     case rel=>exact⟨i,j+1,cur,rfl,by go_num,by omega,by omega,hM.out.gone HR.out HPR.out,hW3.out,hB3.out,by omega,by omega⟩
     case measure=>simp[intOf];omega
    |false=>
     have HPR:=Lib.hid hpr;have HOF:Hid (∀x∈cur,x.size=5):=fun x hx=>HS.out x (hM.out.mem x hx);clear hpr;go_wp2_with(first|(refine qj hW3.out HOF.out hcl i (by omega) r hrs hr1 rfl (.tmp 33) (.tmp 32) rfl g cap _ rfl rfl (by rfl) _ rfl rfl (Tryz.sizeOf87 _) ?_;intro W4 hW4 hq4 hs4 _;have HW4:=Lib.hid hW4;have HB4:=Lib.hid (hB3.out.trans hq4);clear hW3 hB3 hW4 hq4 c0 f0 hk3)|(refine zZ rfl (.tmp 7) 87 rfl wr.heap.size 0 5 rfl r (Tryz.isAgg87 _) (Tryz.sizeOf87 _) hrs (qE hk3) ?_))
     go_roundw
     case rel=>exact⟨i+1,j+1,_,by go_num,by go_num,by omega,by omega,hM.out.keep HR.out HPR.out,HW4.out,HB4.out,by omega,by omega⟩
     case measure=>simp[intOf];omega
   ·obtain rfl:j=l.length:=by omega
    have HOF:Hid (∀x∈cur,x.size=5):=fun x hx=>HS.out x (hM.out.mem x hx);have hfin:(l.filter fun r=> !p r)=cur.take i:=by rw[hM.out.kept,List.take_of_length_le (Nat.le_refl _)]
    have HFI:=Lib.hid hfin;clear hfin;by_cases hci:cap=i
    ·omega
    ·go_wp2_with(refine jh elChan hW.out HOF.out hcl i (by omega) rfl (.tmp 38) rfl g cap _ rfl _ (by first|rfl|skip) (fun _=>by first|rfl|simp) ?_;intro W4 hW4 hq4 hs4)
     go_ret
     refine⟨_,rfl,?_,hB.out.trans hq4⟩;rw[HFI.out];have hti:(cur.take i).length=i:=by simp;omega
     rw[hti];exact hW4
theorem delInt_any(base:Nat)(v:Value)(l:List (Array Value))(fv:Value)(p:Array Value->Bool)(w:World)(hown:w.ownsRow base 3 1 v l.length (yy l))(hs: ∀r∈l,r.size=1)(h1: ∀r∈l,yZ r)(hbase:base<=w.heap.size)(hp:Pred1 fv l p base w):
  Calls Tryz.prog 164 #[v,fv] w fun e w'=> ∃v',e= .returned v' /\w'.ownsRow base 3 1 v' (l.filter fun r=> !p r).length (yy (l.filter fun r=> !p r))/\Below base w w':=by
 have hsl:Sl 1 v l (fun _=>False) w:=zV hown hs (fun _ h=>h.elim);have hP:=hp;rcases qG p l with⟨hi,hfl⟩|⟨i0,hi,hlt,hkept,hhit⟩
 ·have HO:=Lib.hid hown
  have HI:=Lib.hid hi;have HF:=Lib.hid hfl;clear hown hi hfl hp;go_enter Tryz.func164,Tryz.ntmps164;go_wp2_with fail;refine(idxInt_any v l fv p _ w hsl base hbase hP).mono ?_;rintro e w1 ⟨rfl,hb⟩;rw[HI.out];go_wp2_with fail
  go_ret
  refine⟨_,rfl,?_,hb.mono hbase⟩;rw[HF.out];exact HO.out.kept (row:=none) ⟨hb.os,hb.tape,hb.output,hb.size,fun k hk _=>hb.block k hk⟩ (Classical.em _)
 ·rcases hown.2 with⟨_,h0⟩|⟨g,cap,cur0,rfl,hbg,_,hnc,hcm,_,_⟩
  ·omega
  obtain⟨F,caps,rfl,hfn,hF⟩:=hp;have HN:=Lib.hid hfn;have HF:=Lib.hid hF;have HO:=Lib.hid hown;have HM:=Lib.hid (ZZ hlt hkept hhit);have HI:=Lib.hid hi;have HS:=Lib.hid hs;have H1:=Lib.hid h1;have hcm':cap<=9223372036854775807:=hcm;have hlm:l.length<=9223372036854775807:=Nat.le_trans hnc hcm';clear hfn hF hown hkept hhit hi hs h1 hcm;go_enter Tryz.func164,Tryz.ntmps164;go_wp2_with fail;refine(idxInt_any _ l _ p _ w hsl base hbase hP).mono ?_;rintro e w1 ⟨rfl,hb⟩;rw[HI.out];have hO1:=HO.out.kept (row:=none) (w':=w1) ⟨hb.os,hb.tape,hb.output,hb.size,fun k hk _=>hb.block k hk⟩ (by simp[Value.ownBlock]);have hB1:=zj (hb.mono hbase);have hb1:base<=w1.heap.size:=Nat.le_trans hbase hb.size;have hg1:g<w1.heap.size:=(hO1.lt g rfl).2;have HO1:=Lib.hid hO1;have hi0:((i0:Int)== -1)=false:=by rw[beq_eq_false_iff_ne];omega
  clear hb HO hsl hP hO1;go_wp2_with fail
  go_loopw [5,6] (fun si sj W=> ∃(i j:Nat) (cur:List (Array Value)),si= .int .i64 i/\sj= .int .i64 j/\i<j/\j<=l.length/\Hid (Mid p l cur i j)/\Hid (W.ownsRow base 3 1 (.slice (some ⟨g,0,none⟩) l.length cap) l.length (yy cur))/\Hid (Below base w W)/\base<=W.heap.size/\g<W.heap.size) (fun _ sj _=>l.length-(intOf sj).toNat)
  case atStart=>exact⟨i0,i0+1,l,by first|rfl|go_num,by first|rfl|go_num,by omega,by omega,HM.out,HO1.out,hB1.out,hb1,hg1⟩
  case round=>
   obtain⟨i,j,cur,rfl,rfl,hij,hjl,hM,hW,hB,hbw,hgw⟩:=hrel;have hcl:=hM.out.len;by_cases hlt:j<l.length
   ·obtain⟨r,hr⟩: ∃r,l[j]? =some r:=⟨l[j],List.getElem?_eq_getElem hlt⟩
    have hrl:=List.mem_of_getElem? hr;have hrs:=HS.out r hrl;have hr1:=H1.out r hrl;have hsl:Sl 1 (.slice (some ⟨g,0,none⟩) l.length cap) cur (fun _=>False) wr:=by
     have:=hW.out;rw[<-hcl] at this⊢;exact zV this (fun x hx=>HS.out x (hM.out.mem x hx)) (fun _ h=>h.elim)
    obtain⟨b,o,hA,hbs,_,_,hcell⟩:=hsl.row (i:=j) (r:=r) ((hM.out.row hlt).trans hr) (by decide);obtain⟨rfl,rfl⟩:g=b/\0=o:=by injection hA with hA;injection hA with h1 h2;exact⟨h1,h2⟩
    have HR:=Lib.hid hr;have HC:=Lib.hid hcell;have hcf: ∀args w,(callFunc F args).run Tryz.prog w= .ok (.enter F args) w:=fun args w=>yk HN.out args;have HQ:=Lib.hid (HF.out r hrl);have hgne:some g≠some wr.heap.size:=by intro e;injection e;omega
    have HGN:=Lib.hid hgne;clear hcell hr hsl hA hrl hgne;obtain⟨u0,rfl⟩:=row_one hrs;have h0:=HC.out 0 u0 rfl;simp only[Nat.mul_one,Nat.add_zero,Nat.zero_add] at h0;go_wp2_with fail;refine(HQ.out wr hB.out).mono ?_;rintro e W3 ⟨rfl,hb3⟩;have hW3:=Lib.hid (hW.out.kept (row:=none) (w':=W3) ⟨hb3.os,hb3.tape,hb3.output,hb3.size,fun k hk _=>hb3.block k hk⟩ (by simp[Value.ownBlock]));have hB3:=Lib.hid (hB.out.trans (hb3.mono hbw));have hz3:=hb3.size;have hg3:g<W3.heap.size:=(hW3.out.lt g rfl).2;clear hb3 hW hB hcf HQ HC h0;cases hpr:p #[u0] with
    |true=>
     have HPR:=Lib.hid hpr;clear hpr;go_wp2_with fail
     go_roundw
     case rel=>exact⟨i,j+1,cur,rfl,by go_num,by omega,by omega,hM.out.gone HR.out HPR.out,hW3.out,hB3.out,by omega,by omega⟩
     case measure=>simp[intOf];omega
    |false=>
     have HPR:=Lib.hid hpr;have HOF:Hid (∀x∈cur,x.size=1):=fun x hx=>HS.out x (hM.out.mem x hx);clear hpr;go_wp2_with(first|(refine qj hW3.out HOF.out hcl i (by omega) #[u0] hrs hr1 rfl (.tmp 33) (.tmp 32) rfl g cap _ rfl rfl (by first|rfl|omega) _ rfl (gu (hr1 u0 (by simp))) (Tryz.sizeOf3 _) ?_;intro W4 hW4 hq4 hs4 _;have HW4:=Lib.hid hW4;have HB4:=Lib.hid (hB3.out.trans hq4);clear hW3 hB3 hW4 hq4)|fail)
     go_roundw
     case rel=>exact⟨i+1,j+1,_,by go_num,by go_num,by omega,by omega,hM.out.keep HR.out HPR.out,HW4.out,HB4.out,by omega,by omega⟩
     case measure=>simp[intOf];omega
   ·obtain rfl:j=l.length:=by omega
    have HOF:Hid (∀x∈cur,x.size=1):=fun x hx=>HS.out x (hM.out.mem x hx);have hfin:(l.filter fun r=> !p r)=cur.take i:=by rw[hM.out.kept,List.take_of_length_le (Nat.le_refl _)]
    have HFI:=Lib.hid hfin;clear hfin;by_cases hci:cap=i
    ·omega
    ·go_wp2_with(refine jh elInt hW.out HOF.out hcl i (by omega) rfl (.tmp 38) rfl g cap _ rfl _ (by first|rfl|skip) (fun _=>by first|rfl|simp) ?_;intro W4 hW4 hq4 hs4)
     go_ret
     refine⟨_,rfl,?_,hB.out.trans hq4⟩;rw[HFI.out];have hti:(cur.take i).length=i:=by simp;omega
     rw[hti];exact hW4
theorem delAlarm_any(base:Nat)(v:Value)(l:List (Array Value))(fv:Value)(p:Array Value->Bool)(w:World)(hown:w.ownsRow base 219 2 v l.length (yy l))(hs: ∀r∈l,r.size=2)(h1: ∀r∈l,yZ r)(hbase:base<=w.heap.size)(hp:Zv fv l p base w):
  Calls Tryz.prog 167 #[v,fv] w fun e w'=> ∃v',e= .returned v' /\w'.ownsRow base 219 2 v' (l.filter fun r=> !p r).length (yy (l.filter fun r=> !p r))/\Below base w w':=by
 have hsl:Sl 2 v l (fun _=>False) w:=zV hown hs (fun _ h=>h.elim);have hP:=hp;rcases qG p l with⟨hi,hfl⟩|⟨i0,hi,hlt,hkept,hhit⟩
 ·have HO:=Lib.hid hown
  have HI:=Lib.hid hi;have HF:=Lib.hid hfl;clear hown hi hfl hp;go_enter Tryz.func167,Tryz.ntmps167;go_wp2_with fail;refine(idxAlarm_any v l fv p _ w hsl base hbase hP).mono ?_;rintro e w1 ⟨rfl,hb⟩;rw[HI.out];go_wp2_with fail
  go_ret
  refine⟨_,rfl,?_,hb.mono hbase⟩;rw[HF.out];exact HO.out.kept (row:=none) ⟨hb.os,hb.tape,hb.output,hb.size,fun k hk _=>hb.block k hk⟩ (Classical.em _)
 ·rcases hown.2 with⟨_,h0⟩|⟨g,cap,cur0,rfl,hbg,_,hnc,hcm,_,_⟩
  ·omega
  obtain⟨F,caps,rfl,hfn,hF⟩:=hp;have HN:=Lib.hid hfn;have HF:=Lib.hid hF;have HO:=Lib.hid hown;have HM:=Lib.hid (ZZ hlt hkept hhit);have HI:=Lib.hid hi;have HS:=Lib.hid hs;have H1:=Lib.hid h1;have hcm':cap<=9223372036854775807:=hcm;have hlm:l.length<=9223372036854775807:=Nat.le_trans hnc hcm';clear hfn hF hown hkept hhit hi hs h1 hcm;go_enter Tryz.func167,Tryz.ntmps167;go_wp2_with fail;refine(idxAlarm_any _ l _ p _ w hsl base hbase hP).mono ?_;rintro e w1 ⟨rfl,hb⟩;rw[HI.out];have hO1:=HO.out.kept (row:=none) (w':=w1) ⟨hb.os,hb.tape,hb.output,hb.size,fun k hk _=>hb.block k hk⟩ (by simp[Value.ownBlock]);have hB1:=zj (hb.mono hbase);have hb1:base<=w1.heap.size:=Nat.le_trans hbase hb.size;have hg1:g<w1.heap.size:=(hO1.lt g rfl).2;have HO1:=Lib.hid hO1;have hi0:((i0:Int)== -1)=false:=by rw[beq_eq_false_iff_ne];omega
  clear hb HO hsl hP hO1;go_wp2_with fail
  go_loopw [5,6] (fun si sj W=> ∃(i j:Nat) (cur:List (Array Value)),si= .int .i64 i/\sj= .int .i64 j/\i<j/\j<=l.length/\Hid (Mid p l cur i j)/\Hid (W.ownsRow base 219 2 (.slice (some ⟨g,0,none⟩) l.length cap) l.length (yy cur))/\Hid (Below base w W)/\base<=W.heap.size/\g<W.heap.size) (fun _ sj _=>l.length-(intOf sj).toNat)
  case atStart=>exact⟨i0,i0+1,l,by first|rfl|go_num,by first|rfl|go_num,by omega,by omega,HM.out,HO1.out,hB1.out,hb1,hg1⟩
  case round=>
   obtain⟨i,j,cur,rfl,rfl,hij,hjl,hM,hW,hB,hbw,hgw⟩:=hrel;have hcl:=hM.out.len;by_cases hlt:j<l.length
   ·obtain⟨r,hr⟩: ∃r,l[j]? =some r:=⟨l[j],List.getElem?_eq_getElem hlt⟩
    have hrl:=List.mem_of_getElem? hr;have hrs:=HS.out r hrl;have hr1:=H1.out r hrl;have hsl:Sl 2 (.slice (some ⟨g,0,none⟩) l.length cap) cur (fun _=>False) wr:=by
     have:=hW.out;rw[<-hcl] at this⊢;exact zV this (fun x hx=>HS.out x (hM.out.mem x hx)) (fun _ h=>h.elim)
    obtain⟨b,o,hA,hbs,_,_,hcell⟩:=hsl.row (i:=j) (r:=r) ((hM.out.row hlt).trans hr) (by decide);obtain⟨rfl,rfl⟩:g=b/\0=o:=by injection hA with hA;injection hA with h1 h2;exact⟨h1,h2⟩
    have HR:=Lib.hid hr;have HC:=Lib.hid hcell;have hcf: ∀args w,(callFunc F args).run Tryz.prog w= .ok (.enter F args) w:=fun args w=>yk HN.out args;have HQ:=Lib.hid (HF.out r hrl);have hgne:some g≠some wr.heap.size:=by intro e;injection e;omega
    have HGN:=Lib.hid hgne;clear hcell hr hsl hA hrl hgne;go_wp2_with(first|(refine yJ rfl 219 rfl _ (Tryz.zeroValue219 _) ?_;intro W1 hk1 hq1 hs1)|(refine yX rfl (.tmp 7) (.tmp 25) 219 rfl wr.heap.size 0 rfl _ 219 hk1 _ rfl r rfl (by rw[hrs];exact Tryz.sizeOf219 _) (by first|(rw[hrs];decide)|simp[Value.cells]) hr1 ?_;intro W2 hk2 hq2 hs2 hg2;rw[xU _ _ (by rw[hrs];rfl)] at hk2;obtain⟨c0,f0⟩:=hk2.rules)|(refine zZ rfl (.tmp 24) 219 rfl g _ 2 rfl r (Tryz.isAgg219 _) (Tryz.sizeOf219 _) hrs (fun j u hj=>by have:=HC.out j u hj;simpa using this) ?_)|(refine zZ rfl (.tmp 7) 219 rfl wr.heap.size 0 2 rfl r (Tryz.isAgg219 _) (Tryz.sizeOf219 _) hrs (qE hk2) ?_));refine(HQ.out W2 (hB.out.trans ((hq1.mono hbw).trans (hq2.mono hbw)))).mono ?_;rintro e W3 ⟨rfl,hb3⟩;have hW1:=hW.out.kept (row:=none) (w':=W1) ⟨hq1.os,hq1.tape,hq1.output,hq1.size,fun k hk _=>hq1.block k hk⟩ (by simp[Value.ownBlock]);have hW2:=hW1.kept (w':=W2) hg2 (.inr HGN.out);have hW3:=Lib.hid (hW2.kept (row:=none) (w':=W3) ⟨hb3.os,hb3.tape,hb3.output,hb3.size,fun k hk _=>hb3.block k hk⟩ (by simp[Value.ownBlock]));have hB3:=Lib.hid (hB.out.trans ((hq1.mono hbw).trans ((hq2.mono hbw).trans (hb3.mono (by omega)))));have hk3:=hk2.below hb3;have hz3:=hb3.size;have hg3:g<W3.heap.size:=(hW3.out.lt g rfl).2;clear hb3 hW hW1 hW2 hB hk1 hk2 hq1 hq2 hg2 c0 f0 hcf HQ HC;obtain⟨c0,f0⟩:=hk3.rules;cases hpr:p r with
    |true=>
     have HPR:=Lib.hid hpr;clear hpr;go_wp2_with fail
     go_roundw
     case rel=>exact⟨i,j+1,cur,rfl,by go_num,by omega,by omega,hM.out.gone HR.out HPR.out,hW3.out,hB3.out,by omega,by omega⟩
     case measure=>simp[intOf];omega
    |false=>
     have HPR:=Lib.hid hpr;have HOF:Hid (∀x∈cur,x.size=2):=fun x hx=>HS.out x (hM.out.mem x hx);clear hpr;go_wp2_with(first|(refine qj hW3.out HOF.out hcl i (by omega) r hrs hr1 rfl (.tmp 33) (.tmp 32) rfl g cap _ rfl rfl (by rfl) _ rfl rfl (Tryz.sizeOf219 _) ?_;intro W4 hW4 hq4 hs4 _;have HW4:=Lib.hid hW4;have HB4:=Lib.hid (hB3.out.trans hq4);clear hW3 hB3 hW4 hq4 c0 f0 hk3)|(refine zZ rfl (.tmp 7) 219 rfl wr.heap.size 0 2 rfl r (Tryz.isAgg219 _) (Tryz.sizeOf219 _) hrs (qE hk3) ?_))
     go_roundw
     case rel=>exact⟨i+1,j+1,_,by go_num,by go_num,by omega,by omega,hM.out.keep HR.out HPR.out,HW4.out,HB4.out,by omega,by omega⟩
     case measure=>simp[intOf];omega
   ·obtain rfl:j=l.length:=by omega
    have HOF:Hid (∀x∈cur,x.size=2):=fun x hx=>HS.out x (hM.out.mem x hx);have hfin:(l.filter fun r=> !p r)=cur.take i:=by rw[hM.out.kept,List.take_of_length_le (Nat.le_refl _)]
    have HFI:=Lib.hid hfin;clear hfin;by_cases hci:cap=i
    ·omega
    ·go_wp2_with(refine jh vg hW.out HOF.out hcl i (by omega) rfl (.tmp 38) rfl g cap _ rfl _ (by first|rfl|skip) (fun _=>by first|rfl|simp) ?_;intro W4 hW4 hq4 hs4)
     go_ret
     refine⟨_,rfl,?_,hB.out.trans hq4⟩;rw[HFI.out];have hti:(cur.take i).length=i:=by simp;omega
     rw[hti];exact hW4
theorem delProc_any(base:Nat)(v:Value)(l:List (Array Value))(fv:Value)(p:Array Value->Bool)(w:World)(hown:w.ownsRow base 132 26 v l.length (yy l))(hs: ∀r∈l,r.size=26)(h1: ∀r∈l,yZ r)(hbase:base<=w.heap.size)(hp:Zv fv l p base w):
  Calls Tryz.prog 169 #[v,fv] w fun e w'=> ∃v',e= .returned v' /\w'.ownsRow base 132 26 v' (l.filter fun r=> !p r).length (yy (l.filter fun r=> !p r))/\Below base w w':=by
 have hsl:Sl 26 v l (fun _=>False) w:=zV hown hs (fun _ h=>h.elim);have hP:=hp;rcases qG p l with⟨hi,hfl⟩|⟨i0,hi,hlt,hkept,hhit⟩
 ·have HO:=Lib.hid hown
  have HI:=Lib.hid hi;have HF:=Lib.hid hfl;clear hown hi hfl hp;go_enter Tryz.func169,Tryz.ntmps169;go_wp2_with fail;refine(idxProc_any v l fv p _ w hsl base hbase hP).mono ?_;rintro e w1 ⟨rfl,hb⟩;rw[HI.out];go_wp2_with fail
  go_ret
  refine⟨_,rfl,?_,hb.mono hbase⟩;rw[HF.out];exact HO.out.kept (row:=none) ⟨hb.os,hb.tape,hb.output,hb.size,fun k hk _=>hb.block k hk⟩ (Classical.em _)
 ·rcases hown.2 with⟨_,h0⟩|⟨g,cap,cur0,rfl,hbg,_,hnc,hcm,_,_⟩
  ·omega
  obtain⟨F,caps,rfl,hfn,hF⟩:=hp;have HN:=Lib.hid hfn;have HF:=Lib.hid hF;have HO:=Lib.hid hown;have HM:=Lib.hid (ZZ hlt hkept hhit);have HI:=Lib.hid hi;have HS:=Lib.hid hs;have H1:=Lib.hid h1;have hcm':cap<=9223372036854775807:=hcm;have hlm:l.length<=9223372036854775807:=Nat.le_trans hnc hcm';clear hfn hF hown hkept hhit hi hs h1 hcm;go_enter Tryz.func169,Tryz.ntmps169;go_wp2_with fail;refine(idxProc_any _ l _ p _ w hsl base hbase hP).mono ?_;rintro e w1 ⟨rfl,hb⟩;rw[HI.out];have hO1:=HO.out.kept (row:=none) (w':=w1) ⟨hb.os,hb.tape,hb.output,hb.size,fun k hk _=>hb.block k hk⟩ (by simp[Value.ownBlock]);have hB1:=zj (hb.mono hbase);have hb1:base<=w1.heap.size:=Nat.le_trans hbase hb.size;have hg1:g<w1.heap.size:=(hO1.lt g rfl).2;have HO1:=Lib.hid hO1;have hi0:((i0:Int)== -1)=false:=by rw[beq_eq_false_iff_ne];omega
  clear hb HO hsl hP hO1;go_wp2_with fail
  go_loopw [5,6] (fun si sj W=> ∃(i j:Nat) (cur:List (Array Value)),si= .int .i64 i/\sj= .int .i64 j/\i<j/\j<=l.length/\Hid (Mid p l cur i j)/\Hid (W.ownsRow base 132 26 (.slice (some ⟨g,0,none⟩) l.length cap) l.length (yy cur))/\Hid (Below base w W)/\base<=W.heap.size/\g<W.heap.size) (fun _ sj _=>l.length-(intOf sj).toNat)
  case atStart=>exact⟨i0,i0+1,l,by first|rfl|go_num,by first|rfl|go_num,by omega,by omega,HM.out,HO1.out,hB1.out,hb1,hg1⟩
  case round=>
   obtain⟨i,j,cur,rfl,rfl,hij,hjl,hM,hW,hB,hbw,hgw⟩:=hrel;have hcl:=hM.out.len;by_cases hlt:j<l.length
   ·obtain⟨r,hr⟩: ∃r,l[j]? =some r:=⟨l[j],List.getElem?_eq_getElem hlt⟩
    have hrl:=List.mem_of_getElem? hr;have hrs:=HS.out r hrl;have hr1:=H1.out r hrl;have hsl:Sl 26 (.slice (some ⟨g,0,none⟩) l.length cap) cur (fun _=>False) wr:=by
     have:=hW.out;rw[<-hcl] at this⊢;exact zV this (fun x hx=>HS.out x (hM.out.mem x hx)) (fun _ h=>h.elim)
    obtain⟨b,o,hA,hbs,_,_,hcell⟩:=hsl.row (i:=j) (r:=r) ((hM.out.row hlt).trans hr) (by decide);obtain⟨rfl,rfl⟩:g=b/\0=o:=by injection hA with hA;injection hA with h1 h2;exact⟨h1,h2⟩
    have HR:=Lib.hid hr;have HC:=Lib.hid hcell;have hcf: ∀args w,(callFunc F args).run Tryz.prog w= .ok (.enter F args) w:=fun args w=>yk HN.out args;have HQ:=Lib.hid (HF.out r hrl);have hgne:some g≠some wr.heap.size:=by intro e;injection e;omega
    have HGN:=Lib.hid hgne;clear hcell hr hsl hA hrl hgne;go_wp2_with(first|(refine yJ rfl 132 rfl _ (Tryz.zeroValue132 _) ?_;intro W1 hk1 hq1 hs1)|(refine yX rfl (.tmp 7) (.tmp 25) 132 rfl wr.heap.size 0 rfl _ 132 hk1 _ rfl r rfl (by rw[hrs];exact Tryz.sizeOf132 _) (by first|(rw[hrs];decide)|simp[Value.cells]) hr1 ?_;intro W2 hk2 hq2 hs2 hg2;rw[xU _ _ (by rw[hrs];rfl)] at hk2;obtain⟨c0,f0⟩:=hk2.rules)|(refine zZ rfl (.tmp 24) 132 rfl g _ 26 rfl r (Tryz.isAgg132 _) (Tryz.sizeOf132 _) hrs (fun j u hj=>by have:=HC.out j u hj;simpa using this) ?_)|(refine zZ rfl (.tmp 7) 132 rfl wr.heap.size 0 26 rfl r (Tryz.isAgg132 _) (Tryz.sizeOf132 _) hrs (qE hk2) ?_));refine(HQ.out W2 (hB.out.trans ((hq1.mono hbw).trans (hq2.mono hbw)))).mono ?_;rintro e W3 ⟨rfl,hb3⟩;have hW1:=hW.out.kept (row:=none) (w':=W1) ⟨hq1.os,hq1.tape,hq1.output,hq1.size,fun k hk _=>hq1.block k hk⟩ (by simp[Value.ownBlock]);have hW2:=hW1.kept (w':=W2) hg2 (.inr HGN.out);have hW3:=Lib.hid (hW2.kept (row:=none) (w':=W3) ⟨hb3.os,hb3.tape,hb3.output,hb3.size,fun k hk _=>hb3.block k hk⟩ (by simp[Value.ownBlock]));have hB3:=Lib.hid (hB.out.trans ((hq1.mono hbw).trans ((hq2.mono hbw).trans (hb3.mono (by omega)))));have hk3:=hk2.below hb3;have hz3:=hb3.size;have hg3:g<W3.heap.size:=(hW3.out.lt g rfl).2;clear hb3 hW hW1 hW2 hB hk1 hk2 hq1 hq2 hg2 c0 f0 hcf HQ HC;obtain⟨c0,f0⟩:=hk3.rules;cases hpr:p r with
    |true=>
     have HPR:=Lib.hid hpr;clear hpr;go_wp2_with fail
     go_roundw
     case rel=>exact⟨i,j+1,cur,rfl,by go_num,by omega,by omega,hM.out.gone HR.out HPR.out,hW3.out,hB3.out,by omega,by omega⟩
     case measure=>simp[intOf];omega
    |false=>
     have HPR:=Lib.hid hpr;have HOF:Hid (∀x∈cur,x.size=26):=fun x hx=>HS.out x (hM.out.mem x hx);clear hpr;go_wp2_with(first|(refine qj hW3.out HOF.out hcl i (by omega) r hrs hr1 rfl (.tmp 33) (.tmp 32) rfl g cap _ rfl rfl (by rfl) _ rfl rfl (Tryz.sizeOf132 _) ?_;intro W4 hW4 hq4 hs4 _;have HW4:=Lib.hid hW4;have HB4:=Lib.hid (hB3.out.trans hq4);clear hW3 hB3 hW4 hq4 c0 f0 hk3)|(refine zZ rfl (.tmp 7) 132 rfl wr.heap.size 0 26 rfl r (Tryz.isAgg132 _) (Tryz.sizeOf132 _) hrs (qE hk3) ?_))
     go_roundw
     case rel=>exact⟨i+1,j+1,_,by go_num,by go_num,by omega,by omega,hM.out.keep HR.out HPR.out,HW4.out,HB4.out,by omega,by omega⟩
     case measure=>simp[intOf];omega
   ·obtain rfl:j=l.length:=by omega
    have HOF:Hid (∀x∈cur,x.size=26):=fun x hx=>HS.out x (hM.out.mem x hx);have hfin:(l.filter fun r=> !p r)=cur.take i:=by rw[hM.out.kept,List.take_of_length_le (Nat.le_refl _)]
    have HFI:=Lib.hid hfin;clear hfin;by_cases hci:cap=i
    ·omega
    ·go_wp2_with(refine jh gG hW.out HOF.out hcl i (by omega) rfl (.tmp 38) rfl g cap _ rfl _ (by first|rfl|skip) (fun _=>by first|rfl|simp) ?_;intro W4 hW4 hq4 hs4)
     go_ret
     refine⟨_,rfl,?_,hB.out.trans hq4⟩;rw[HFI.out];have hti:(cur.take i).length=i:=by simp;omega
     rw[hti];exact hW4
theorem delSpan_any(base:Nat)(v:Value)(l:List (Array Value))(fv:Value)(p:Array Value->Bool)(w:World)(hown:w.ownsRow base 165 3 v l.length (yy l))(hs: ∀r∈l,r.size=3)(h1: ∀r∈l,yZ r)(hbase:base<=w.heap.size)(hp:Zv fv l p base w):
  Calls Tryz.prog 188 #[v,fv] w fun e w'=> ∃v',e= .returned v' /\w'.ownsRow base 165 3 v' (l.filter fun r=> !p r).length (yy (l.filter fun r=> !p r))/\Below base w w':=by
 have hsl:Sl 3 v l (fun _=>False) w:=zV hown hs (fun _ h=>h.elim);have hP:=hp;rcases qG p l with⟨hi,hfl⟩|⟨i0,hi,hlt,hkept,hhit⟩
 ·have HO:=Lib.hid hown
  have HI:=Lib.hid hi;have HF:=Lib.hid hfl;clear hown hi hfl hp;go_enter Tryz.func188,Tryz.ntmps188;go_wp2_with fail;refine(idxSpan_any v l fv p _ w hsl base hbase hP).mono ?_;rintro e w1 ⟨rfl,hb⟩;rw[HI.out];go_wp2_with fail
  go_ret
  refine⟨_,rfl,?_,hb.mono hbase⟩;rw[HF.out];exact HO.out.kept (row:=none) ⟨hb.os,hb.tape,hb.output,hb.size,fun k hk _=>hb.block k hk⟩ (Classical.em _)
 ·rcases hown.2 with⟨_,h0⟩|⟨g,cap,cur0,rfl,hbg,_,hnc,hcm,_,_⟩
  ·omega
  obtain⟨F,caps,rfl,hfn,hF⟩:=hp;have HN:=Lib.hid hfn;have HF:=Lib.hid hF;have HO:=Lib.hid hown;have HM:=Lib.hid (ZZ hlt hkept hhit);have HI:=Lib.hid hi;have HS:=Lib.hid hs;have H1:=Lib.hid h1;have hcm':cap<=9223372036854775807:=hcm;have hlm:l.length<=9223372036854775807:=Nat.le_trans hnc hcm';clear hfn hF hown hkept hhit hi hs h1 hcm;go_enter Tryz.func188,Tryz.ntmps188;go_wp2_with fail;refine(idxSpan_any _ l _ p _ w hsl base hbase hP).mono ?_;rintro e w1 ⟨rfl,hb⟩;rw[HI.out];have hO1:=HO.out.kept (row:=none) (w':=w1) ⟨hb.os,hb.tape,hb.output,hb.size,fun k hk _=>hb.block k hk⟩ (by simp[Value.ownBlock]);have hB1:=zj (hb.mono hbase);have hb1:base<=w1.heap.size:=Nat.le_trans hbase hb.size;have hg1:g<w1.heap.size:=(hO1.lt g rfl).2;have HO1:=Lib.hid hO1;have hi0:((i0:Int)== -1)=false:=by rw[beq_eq_false_iff_ne];omega
  clear hb HO hsl hP hO1;go_wp2_with fail
  go_loopw [5,6] (fun si sj W=> ∃(i j:Nat) (cur:List (Array Value)),si= .int .i64 i/\sj= .int .i64 j/\i<j/\j<=l.length/\Hid (Mid p l cur i j)/\Hid (W.ownsRow base 165 3 (.slice (some ⟨g,0,none⟩) l.length cap) l.length (yy cur))/\Hid (Below base w W)/\base<=W.heap.size/\g<W.heap.size) (fun _ sj _=>l.length-(intOf sj).toNat)
  case atStart=>exact⟨i0,i0+1,l,by first|rfl|go_num,by first|rfl|go_num,by omega,by omega,HM.out,HO1.out,hB1.out,hb1,hg1⟩
  case round=>
   obtain⟨i,j,cur,rfl,rfl,hij,hjl,hM,hW,hB,hbw,hgw⟩:=hrel;have hcl:=hM.out.len;by_cases hlt:j<l.length
   ·obtain⟨r,hr⟩: ∃r,l[j]? =some r:=⟨l[j],List.getElem?_eq_getElem hlt⟩
    have hrl:=List.mem_of_getElem? hr;have hrs:=HS.out r hrl;have hr1:=H1.out r hrl;have hsl:Sl 3 (.slice (some ⟨g,0,none⟩) l.length cap) cur (fun _=>False) wr:=by
     have:=hW.out;rw[<-hcl] at this⊢;exact zV this (fun x hx=>HS.out x (hM.out.mem x hx)) (fun _ h=>h.elim)
    obtain⟨b,o,hA,hbs,_,_,hcell⟩:=hsl.row (i:=j) (r:=r) ((hM.out.row hlt).trans hr) (by decide);obtain⟨rfl,rfl⟩:g=b/\0=o:=by injection hA with hA;injection hA with h1 h2;exact⟨h1,h2⟩
    have HR:=Lib.hid hr;have HC:=Lib.hid hcell;have hcf: ∀args w,(callFunc F args).run Tryz.prog w= .ok (.enter F args) w:=fun args w=>yk HN.out args;have HQ:=Lib.hid (HF.out r hrl);have hgne:some g≠some wr.heap.size:=by intro e;injection e;omega
    have HGN:=Lib.hid hgne;clear hcell hr hsl hA hrl hgne;go_wp2_with(first|(refine yJ rfl 165 rfl _ (Tryz.zeroValue165 _) ?_;intro W1 hk1 hq1 hs1)|(refine yX rfl (.tmp 7) (.tmp 25) 165 rfl wr.heap.size 0 rfl _ 165 hk1 _ rfl r rfl (by rw[hrs];exact Tryz.sizeOf165 _) (by first|(rw[hrs];decide)|simp[Value.cells]) hr1 ?_;intro W2 hk2 hq2 hs2 hg2;rw[xU _ _ (by rw[hrs];rfl)] at hk2;obtain⟨c0,f0⟩:=hk2.rules)|(refine zZ rfl (.tmp 24) 165 rfl g _ 3 rfl r (Tryz.isAgg165 _) (Tryz.sizeOf165 _) hrs (fun j u hj=>by have:=HC.out j u hj;simpa using this) ?_)|(refine zZ rfl (.tmp 7) 165 rfl wr.heap.size 0 3 rfl r (Tryz.isAgg165 _) (Tryz.sizeOf165 _) hrs (qE hk2) ?_));refine(HQ.out W2 (hB.out.trans ((hq1.mono hbw).trans (hq2.mono hbw)))).mono ?_;rintro e W3 ⟨rfl,hb3⟩;have hW1:=hW.out.kept (row:=none) (w':=W1) ⟨hq1.os,hq1.tape,hq1.output,hq1.size,fun k hk _=>hq1.block k hk⟩ (by simp[Value.ownBlock]);have hW2:=hW1.kept (w':=W2) hg2 (.inr HGN.out);have hW3:=Lib.hid (hW2.kept (row:=none) (w':=W3) ⟨hb3.os,hb3.tape,hb3.output,hb3.size,fun k hk _=>hb3.block k hk⟩ (by simp[Value.ownBlock]));have hB3:=Lib.hid (hB.out.trans ((hq1.mono hbw).trans ((hq2.mono hbw).trans (hb3.mono (by omega)))));have hk3:=hk2.below hb3;have hz3:=hb3.size;have hg3:g<W3.heap.size:=(hW3.out.lt g rfl).2;clear hb3 hW hW1 hW2 hB hk1 hk2 hq1 hq2 hg2 c0 f0 hcf HQ HC;obtain⟨c0,f0⟩:=hk3.rules;cases hpr:p r with
    |true=>
     have HPR:=Lib.hid hpr;clear hpr;go_wp2_with fail
     go_roundw
     case rel=>exact⟨i,j+1,cur,rfl,by go_num,by omega,by omega,hM.out.gone HR.out HPR.out,hW3.out,hB3.out,by omega,by omega⟩
     case measure=>simp[intOf];omega
    |false=>
     have HPR:=Lib.hid hpr;have HOF:Hid (∀x∈cur,x.size=3):=fun x hx=>HS.out x (hM.out.mem x hx);clear hpr;go_wp2_with(first|(refine qj hW3.out HOF.out hcl i (by omega) r hrs hr1 rfl (.tmp 33) (.tmp 32) rfl g cap _ rfl rfl (by rfl) _ rfl rfl (Tryz.sizeOf165 _) ?_;intro W4 hW4 hq4 hs4 _;have HW4:=Lib.hid hW4;have HB4:=Lib.hid (hB3.out.trans hq4);clear hW3 hB3 hW4 hq4 c0 f0 hk3)|(refine zZ rfl (.tmp 7) 165 rfl wr.heap.size 0 3 rfl r (Tryz.isAgg165 _) (Tryz.sizeOf165 _) hrs (qE hk3) ?_))
     go_roundw
     case rel=>exact⟨i+1,j+1,_,by go_num,by go_num,by omega,by omega,hM.out.keep HR.out HPR.out,HW4.out,HB4.out,by omega,by omega⟩
     case measure=>simp[intOf];omega
   ·obtain rfl:j=l.length:=by omega
    have HOF:Hid (∀x∈cur,x.size=3):=fun x hx=>HS.out x (hM.out.mem x hx);have hfin:(l.filter fun r=> !p r)=cur.take i:=by rw[hM.out.kept,List.take_of_length_le (Nat.le_refl _)]
    have HFI:=Lib.hid hfin;clear hfin;by_cases hci:cap=i
    ·omega
    ·go_wp2_with(refine jh jl hW.out HOF.out hcl i (by omega) rfl (.tmp 38) rfl g cap _ rfl _ (by first|rfl|skip) (fun _=>by first|rfl|simp) ?_;intro W4 hW4 hq4 hs4)
     go_ret
     refine⟨_,rfl,?_,hB.out.trans hq4⟩;rw[HFI.out];have hti:(cur.take i).length=i:=by simp;omega
     rw[hti];exact hW4
section
variable{ops:Array Oper}{rest:List Oper}{o:Oper}{a:Act}{Q:Exit->Act->World->Prop}{w:World}
theorem xf{e t size bytes:Nat}(E:ElT e t size bytes)(hgd:o.guard=none)(d s:Operand)(ho:o.op= .call {callee:= .builtin .copy,args:= #[d,s],argTypes:= #[t,t]})(g off:Nat)(cur:Array Value)(T:TypeId)(hk:Blk w g cur T)
  (A B:Option Addr) (dLen dCap sLen sCap m:Nat) (hd:a.eval d= .slice A dLen dCap) (hs:a.eval s= .slice B sLen sCap) (hm:Nat.min sLen dLen=m) (cs:List Value) (hlen:cs.length=m*size) (hdst:0<m->A=some ⟨g,off,none⟩)
  (hsrc:0<m-> ∃ad,B=some ad/\ ∀j u,cs[j]? =some u->w.cell? (ad.add j)=some u) (hfit:off+cs.length<=cur.size) (h1: ∀u∈cs,u.oneCell'=true)
  (h: ∀w',Blk w' g (patch cur off cs.toArray) T->Below g w w'->w'.heap.size=w.heap.size->w.grownBy w' (some g)->wpList Tryz.prog ops Q rest (a.put o.dst (.int .i64 m)) w'):wpList Tryz.prog ops Q (o::rest) a w:=by
 obtain⟨ht,f,z,hf,hz,hs1,hb1,hzs,hone⟩:=E;have hszo: ∀w,(sizeOf e).run Tryz.prog w= .ok size w:=fun w=>by simp[sizeOf,typeInfo,hf,hs1]
 refine wpList_plain hgd fun K hK=> ?_;have fin: ∃w',(Builtin.copy_ #[t,t] o.type #[.slice A dLen dCap,.slice B sLen sCap]).run Tryz.prog w= .ok (.int .i64 m) w' /\Blk w' g (patch cur off cs.toArray) T/\Below g w w' /\w'.heap.size=w.heap.size/\w.grownBy w' (some g):=by
  rcases Nat.eq_zero_or_pos m with h0|h0
  ·subst h0
   obtain rfl:cs=[]:=List.eq_nil_of_length_eq_zero (by simpa using hlen);have e1:patch cur off ([]:List Value).toArray=cur:=by simp[patch]
   refine⟨w,?_,by rw[e1];exact hk,Below.refl _ _,rfl,⟨rfl,rfl,rfl,Nat.le_refl _,fun _ _ _=>rfl⟩⟩;cases B<;>cases A<;>simp[Builtin.copy_,run_underlying ht,Builtin.lenOf,hm,hszo,Builtin.firstCells,goInt,loadCells,loadCellsFrom,storeCells]
  ·obtain⟨ad,rfl,hc⟩:=hsrc h0
   obtain rfl:=hdst h0;have hst:=run_storeCells_at (P:=Tryz.prog) g off T cs 0 cur w hk (by simpa using hfit) h1;simp only[Nat.add_zero] at hst;have hfc:=run_firstCells_some (P:=Tryz.prog) w size m ad sLen sCap cs hlen hc;refine⟨w.setRow g (patch cur off cs.toArray),?_,Zq hk _,vG (Below.refl _ _) (Nat.le_refl _) _,by simp[World.setRow],⟨rfl,rfl,rfl,by simp[World.setRow],fun k _ hk=>setRow_other _ _ _ _ (fun e=>hk (by rw[e]))⟩⟩;simp[Builtin.copy_,run_underlying ht,Builtin.lenOf,hm,hszo,hfc,goInt,hst,patch]
 obtain⟨w',hrun,h2,h3,h4,h5⟩:=fin;unfold Oper.wp execOp;simp only[ho,resolve,invoke,builtin,Sem.run_bind,Sem.run_pure,Result.andThen_ok,List.map_toArray,List.map_cons,List.map_nil,hd,hs,hrun];exact hK _ _ (h _ h2 h3 h4 h5)
theorem vq{e t size bytes:Nat}(E:ElT e t size bytes)(hsz:0<size)(hgd:o.guard=none)(s x:Operand)(tn:TypeId)(htn:Tryz.prog.underlying tn=some (.int .i64))(ho:o.op= .call {callee:= .builtin .append,args:= #[s,x],argTypes:= #[t,tn]})
  (A:Option Addr) (n cap k:Nat) (olds:List Value) (hs:a.eval s= .slice A n cap) (hx:a.eval x= .int .i64 k) (hA:A=none->n=0) (hlen:olds.length=n*size) (hold: ∀b,A=some b-> ∀j u,olds[j]? =some u->w.cell? (b.add j)=some u)
  (hk:0<k) (hfull:cap<n+k) (hle:n+k<=200000000) (hby:bytes<=500)
  (h: ∀w' c C,Blk w' w.heap.size C e->C.size=c*size->n+k<=c->c<=maxLen->C.toList.take (n*size)=olds->Below w.heap.size w w'->w'.heap.size=w.heap.size+1->wpList Tryz.prog ops Q rest (a.put o.dst (.slice (some ⟨w.heap.size,0,none⟩) (n+k) c)) w'):wpList Tryz.prog ops Q (o::rest) a w:=by
 obtain⟨ht,f,z,hf,hz,hs1,hb1,hzs,hone⟩:=E;subst hs1 hb1;have hfc:(Builtin.firstCells f.size n (.slice A n cap)).run Tryz.prog w.drew= .ok olds.toArray w.drew:=by
  cases A with
  |none=>
   obtain rfl:=hA rfl;obtain rfl:olds=[]:=List.eq_nil_of_length_eq_zero (by simpa using hlen);exact run_firstCells_none w.drew f.size 0 0 cap
  |some b=>exact run_firstCells_some w.drew f.size n b n cap olds hlen (by simpa using hold b rfl)
 have hb:(n+k)*f.bytes<=200000000*500:=Nat.mul_le_mul hle hby;have hkb:k*f.bytes<=(n+k)*f.bytes:=Nat.mul_le_mul_right _ (by omega);have hrun:=Lib.run_append_grow_zeros (P:=Tryz.prog) w t tn o.type e f z .i64 .i64 ht htn hf hz A n cap olds hfc k hk hsz hfull (by omega) (by omega) (growslice_fits (by omega) (by omega));refine Lib.wpList_append_run w hgd s x t tn ho _ _ hs hx _ _ hrun ?_;have hge:=grownCap_ge w (n+k) cap e;refine h _ _ _ (heap_new w.drew _) ?_ hge (grownCap_le_maxLen w (n+k) cap e (by unfold maxLen;omega)) ?_ ((Below.refl _ _).drew.alloc (Nat.le_refl _) _) (by simp)
 ·simp only[Array.size_append,List.size_toArray,size_zeroCells,hzs,hlen,<-Nat.add_mul]
  rw[Nat.add_sub_cancel' hge]
 ·simp only[Array.toList_append,List.append_assoc]
  exact List.take_left' hlen
end
theorem xG(l k:List (Array Value)):yy (l++k)=yy l++yy k:=by simp[yy]
theorem vJ{size:Nat}{l:List (Array Value)}(hs: ∀r∈l,r.size=size)(i:Nat)(hi:i<=l.length):(yy l).take (i*size)=yy (l.take i):=by
 have h:yy l=yy (l.take i)++yy (l.drop i):=by rw[<-xG,List.take_append_drop]
 have hl:(yy (l.take i)).length=i*size:=by
  rw[xz (fun r hr=>hs r (List.mem_of_mem_take hr)),List.length_take,Nat.min_eq_left hi]
 rw[h];exact List.take_left' hl
theorem vV{size:Nat}{l:List (Array Value)}(hs: ∀r∈l,r.size=size)(i:Nat)(hi:i<=l.length):(yy l).drop (i*size)=yy (l.drop i):=by
 have h:yy l=yy (l.take i)++yy (l.drop i):=by rw[<-xG,List.take_append_drop]
 have hl:(yy (l.take i)).length=i*size:=by
  rw[xz (fun r hr=>hs r (List.mem_of_mem_take hr)),List.length_take,Nat.min_eq_left hi]
 rw[h];exact List.drop_left' hl
theorem vf(C D E:Array Value)(o:Nat)(h:o+D.size+E.size<=C.size):(patch (patch C (o+D.size) E) o D).toList.take (o+D.size+E.size)=C.toList.take o++D.toList++E.toList/\(patch (patch C o D) (o+D.size) E).toList.take (o+D.size+E.size)=C.toList.take o++D.toList++E.toList:=by
 have hC:C.toList.length=C.size:=by simp
 have hD:D.toList.length=D.size:=by simp
 have hE:E.toList.length=E.size:=by simp
 constructor
 ·have e1:(patch C (o+D.size) E).toList=C.toList.take (o+D.size)++E.toList++C.toList.drop (o+D.size+E.size):=by simp[patch]
  have e2:(patch (patch C (o+D.size) E) o D).toList=(patch C (o+D.size) E).toList.take o++D.toList++(patch C (o+D.size) E).toList.drop (o+D.size):=by simp[patch]
  have l1:(C.toList.take (o+D.size)).length=o+D.size:=by rw[List.length_take,hC];omega
  have e3:(patch C (o+D.size) E).toList.take o=C.toList.take o:=by
   rw[e1,List.append_assoc,List.take_append_of_le_length (by omega),List.take_take,Nat.min_eq_left (by omega)]
  have e4:(patch C (o+D.size) E).toList.drop (o+D.size)=E.toList++C.toList.drop (o+D.size+E.size):=by
   rw[e1,List.append_assoc];exact List.drop_left' l1
  rw[e2,e3,e4,<-List.append_assoc];exact List.take_left' (by simp;omega)
 ·have e1:(patch C o D).toList=C.toList.take o++D.toList++C.toList.drop (o+D.size):=by simp[patch]
  have e2:(patch (patch C o D) (o+D.size) E).toList=(patch C o D).toList.take (o+D.size)++E.toList++(patch C o D).toList.drop (o+D.size+E.size):=by simp[patch]
  have e3:(patch C o D).toList.take (o+D.size)=C.toList.take o++D.toList:=by
   rw[e1];exact List.take_left' (by simp;omega)
  rw[e2,e3];exact List.take_left' (by simp;omega)
end Go.Proofs.YtaccidkgnkmagaaGreatDoor.Top
namespace Go.Proofs.YtaccidkgnkmagaaGreatDoor
section
variable{P:Program}{ops:Array Oper}{Q:Exit->Act->World->Prop}{md:Region.Mode}{S:World->Prop}
def Lands(P:Program)(S:World->Prop)(v:Value):Result Next->Prop
 | .ok (.value u) w'=>u=v/\S w'
 | .ok (.enter f args) w'=>Calls P f args w' fun e w''=>e= .returned v/\S w''
 |_=>False
def LandsIn(P:Program)(ops:Array Oper)(S:World->Prop)(o:Oper)(v:Value)(a:Act):Prop:=
 (Region.wanted o (yielded ops a.tmps)=true/\ ∀w,S w->Lands P S v ((execOp a.eval o).run P w))\/
 (Region.wanted o (yielded ops a.tmps)=false/\v=undef)
theorem LandsIn.wpOp{i:Nat}{o:Oper}{v:Value}{a:Act}(hi:ops[i]? =some o)(hy:LandsIn P ops S o v a)
  {K:Act->World->Prop} {w:World} (hS:S w) (h: ∀w',S w'->K (a.put o.dst v) w'):wpOp P ops Q i K a w:=by
 unfold Go.wpOp;simp only[hi];rcases hy with⟨hw,hv⟩|⟨hw,rfl⟩
 ·rw[if_pos hw]
  refine .inl ?_;unfold Oper.wp;have hl:=hv w hS;generalize (execOp a.eval o).run P w=r at hl⊢;cases r with
  |ok n w'=>
   cases n<;>simp only[Lands] at hl
   ·obtain⟨rfl,hS'⟩:=hl
    exact h _ hS'
   ·refine Calls.mono hl ?_
    rintro e w'' ⟨rfl,hS'⟩;exact h _ hS'
  |halt x w'=>exact hl.elim
 ·rw[if_neg (by simp[hw])]
  exact h _ hS
end
section
variable{P:Program}{ops:Array Oper}{Q:Exit->Act->World->Prop}{md:Region.Mode}{S:World->Prop}{s:Nat}
def Closed(md:Region.Mode)(ops:Array Oper)(listed:Array Bool):Prop:=
 listed.size=ops.size/\ ∀j oj,ops[j]? =some oj->listed.getD j false=true-> ∀e∈oj.after,Region.binds md e=true->listed.getD e.on false=true
def closedB(md:Region.Mode)(ops:Array Oper)(listed:Array Bool):Bool:=
 listed.size==ops.size&&ops.toList.zipIdx.all fun x=> !listed.getD x.2 false||x.1.after.all fun e=> !Region.binds md e||listed.getD e.on false
theorem closed_of{listed:Array Bool}(h:closedB md ops listed=true):Closed md ops listed:=by
 simp only[closedB,Bool.and_eq_true,beq_iff_eq] at h;refine⟨h.1,fun j oj hj hl e he hb=> ?_⟩;have hm:(oj,j)∈ops.toList.zipIdx:=by
  rw[List.mem_zipIdx_iff_getElem?];simpa using hj
 have h1:=List.all_eq_true.1 h.2 _ hm;simp only[hl,Bool.not_true,Bool.false_or] at h1;have h2:=Array.all_eq_true_iff_forall_mem.1 h1 e he;simpa[hb] using h2
theorem Closed.add{listed:Array Bool}(h:Closed md ops listed){i:Nat}(hi:i∈Region.ready md ops listed):Closed md ops (listed.setIfInBounds i true):=by
 obtain⟨_,oi,hoi,hall⟩:=mem_ready.1 hi;refine⟨by simpa using h.1,fun j oj hj hl e he hb=> ?_⟩;by_cases hij:i=j
 ·subst hij
  have:oj=oi:=Option.some.inj (hj.symm.trans hoi);subst this;exact getD_set_true (hall e he hb)
 ·rw[getD_set_ne false hij] at hl
  exact getD_set_true (h.2 j oj hj hl e he hb)
def chainUp(md:Region.Mode)(ops:Array Oper):List Nat->Bool
 |i::j::r=>Region.waitsFor md ops j i&&chainUp md ops (j::r)
 |_=>true
theorem chain_unlisted{listed:Array Bool}(hc:Closed md ops listed): ∀(l:List Nat) (i s:Nat),chainUp md ops (i::l)=true->(i::l).getLast? =some s->l≠ []->listed.getD i false=false->s∉Region.ready md ops listed/\listed.getD s false=false
 |[],_,_,_,_,h,_=>absurd rfl h
 |[j],i,s,hu,hs,_,hi=>by
  simp at hs;subst hs;simp only[chainUp,Bool.and_true] at hu;obtain⟨oj,hoj,e,he,hb,hon⟩:=Region.waitsFor_spec hu;refine⟨fun hr=> ?_,?_⟩
  ·obtain⟨_,o',ho',hall⟩:=mem_ready.1 hr
   have:o'=oj:=Option.some.inj (ho'.symm.trans hoj);subst this;have:=hall e he hb;rw[hon,hi] at this;cases this
  ·cases hl:listed.getD j false with
   |false=>rfl
   |true=>
    have:=hc.2 j oj hoj hl e he hb;rw[hon,hi] at this;cases this
 |j::k::r,i,s,hu,hs,_,hi=>by
  simp only[chainUp,Bool.and_eq_true] at hu;obtain⟨oj,hoj,e,he,hb,hon⟩:=Region.waitsFor_spec hu.1;have hj:listed.getD j false=false:=by
   cases hl:listed.getD j false with
   |false=>rfl
   |true=>
    have:=hc.2 j oj hoj hl e he hb;rw[hon,hi] at this;cases this
  exact chain_unlisted hc (k::r) j s (by simp only[chainUp,Bool.and_eq_true];exact hu.2) (by simpa using hs) (by simp) hj
theorem getD_set_self{listed:Array Bool}{j:Nat}(h:listed.getD j true=false):(listed.setIfInBounds j true).getD j false=true:=by
 have hlt:j<listed.size:=by
  rcases Nat.lt_or_ge j listed.size with h'|h'
  ·exact h'
  ·simp[Array.getElem?_eq_none h'] at h
 simp[hlt]
def qg(P:Program)(md:Region.Mode)(ops:Array Oper)(Q:Exit->Act->World->Prop)(S:World->Prop)(s:Nat):Nat->Array Bool->Act->World->Prop
 |0,listed,a,w=>Region.ready md ops listed=[]/\Q .normal a w
 |fuel+1,listed,a,w=>
  (Region.ready md ops listed=[]->Q .normal a w)/\
  ∀i∈Region.ready md ops listed,wpOp P ops Q i (fun a' w'=>(i≠s->listed.getD s false=false->S w')/\qg P md ops Q S s fuel (listed.setIfInBounds i true) a' w') a w
theorem gX: ∀(fuel:Nat) (listed:Array Bool) (a:Act) (w:World),qg P md ops Q S s fuel listed a w->wpAny P md ops Q fuel listed a w
 |0,_,_,_,h=>h
 |fuel+1,_,_,_,h=>⟨h.1,fun i hi=>wpOp_mono (fun a' w' h'=>gX fuel _ a' w' h'.2) (h.2 i hi)⟩
theorem wpAnyS_first{T:World->Prop}{i:Nat}{oi:Oper}{v:Value}(hi:ops[i]? =some oi)(hsel: ∀(j:Nat) (o:Oper) cs b,ops[j]? =some o->o.op≠ .select cs b)
  (hQ: ∀c a w,Q (.panic c) (a.put oi.dst v) w->Q (.panic c) a w)
  (hT: ∀listed,Closed md ops listed->listed.getD i false=false->(∀w,T w)\/((∀w,S w->T w)/\s∉Region.ready md ops listed/\listed.getD s false=false)):
  ∀(fuel:Nat) (listed:Array Bool) (a:Act) (w:World),Closed md ops listed->
   (∀j oj,ops[j]? =some oj->j≠i->listed.getD j true=false->(∀e∈oj.after,Region.binds md e=true->e.on≠i)->oi.apart ops oj=true)->
   i∈Region.ready md ops listed->YieldsIf P ops T oi v a->T w->(listed.getD s false=false->S w)->i≠s->
   qg P md ops Q S s fuel (listed.setIfInBounds i true) (a.put oi.dst v) w->qg P md ops Q S s (fuel+1) listed a w:=by
 intro fuel;induction fuel with
 |zero=>
  intro listed a w _ _ hr hy hTw hSw _ H;refine⟨fun h=>(by rw[h] at hr;cases hr),fun j hj=> ?_⟩;by_cases hji:j=i
  ·subst hji;exact hy.wpOp hi hTw ⟨fun _=>hSw,H⟩
  ·have:=ready_mono hj hji
   rw[H.1] at this;cases this
 |succ fuel ih=>
  intro listed a w hcl hfree hr hy hTw hSw his H;refine⟨fun h=>(by rw[h] at hr;cases hr),fun j hj=> ?_⟩;by_cases hji:j=i
  ·subst hji;exact hy.wpOp hi hTw ⟨fun _=>hSw,H⟩
  ·have h1:=H.2 j (ready_mono hj hji)
   obtain⟨hjun,oj,hoj,hall⟩:=mem_ready.1 hj;have hiun:listed.getD i false=false:=getD_both (mem_ready.1 hr).1;have hnot: ∀e∈oj.after,Region.binds md e=true->e.on≠i:=fun e he hb heq=>by
    have h1:=hall e he hb;rw[heq,hiun] at h1;cases h1
   have h2:=wpOp_putIf hoj (hfree j oj hoj hji hjun hnot) (fun cs b=>hsel i oi cs b hi) (fun cs b=>hsel j oj cs b hoj) hQ hy h1;have hfree': ∀k ok,ops[k]? =some ok->k≠i->(listed.setIfInBounds j true).getD k true=false->
     (∀e∈ok.after,Region.binds md e=true->e.on≠i)->oi.apart ops ok=true:=fun k ok hk hki hun hno=>by
    refine hfree k ok hk hki ?_ hno;by_cases hjk:j=k
    ·subst hjk;exact hjun
    ·rw[getD_set_ne true hjk] at hun;exact hun
   have hsi:(listed.setIfInBounds i true).getD s false=listed.getD s false:=getD_set_ne false his;refine wpOp_mono (fun a' w' h3=>⟨fun hjs hls=>h3.2.1 hjs (by rw[hsi];exact hls),?_⟩) h2;have hS':(listed.setIfInBounds j true).getD s false=false->S w':=fun hls=>by
    have hjs:j≠s:=fun e=>by
     subst e;rw[show(listed.setIfInBounds j true).getD j false=true from getD_set_self hjun] at hls;cases hls
    exact h3.2.1 hjs (by rw[hsi];rw[getD_set_ne false hjs] at hls;exact hls)
   refine ih (listed.setIfInBounds j true) a' w' (hcl.add hj) hfree' (ready_mono hr (Ne.symm hji)) h3.1 ?_ hS' his (by rw[Array.setIfInBounds_comm _ _ hji];exact h3.2.2);rcases hT listed hcl hiun with h|⟨h,hns,hls⟩
   ·exact h w'
   ·have hjs:j≠s:=fun e=>hns (e▸hj)
    exact h w' (h3.2.1 hjs (by rw[hsi];exact hls))
def upB(md:Region.Mode)(ops:Array Oper)(s i:Nat)(path:List Nat):Bool:=
 decide (ops.size<=s)||(!path.isEmpty&&(chainUp md ops (i::path)&&(i::path).getLast? ==some s))
theorem up_spec{i:Nat}{path:List Nat}(h:upB md ops s i path=true): ∀listed,Closed md ops listed->listed.getD i false=false->s∉Region.ready md ops listed/\listed.getD s false=false:=by
 intro listed hc hi;simp only[upB,Bool.or_eq_true,decide_eq_true_eq,Bool.and_eq_true,Bool.not_eq_true',beq_iff_eq] at h;rcases h with h|⟨h0,h1,h2⟩
 ·refine⟨fun hr=> ?_,?_⟩
  ·obtain⟨_,o,ho,_⟩:=mem_ready.1 hr
   have:=(Array.getElem?_eq_some_iff.1 ho).1;omega
  ·simp[Array.getElem?_eq_none (show listed.size<=s by rw[hc.1];exact h)]
 ·exact chain_unlisted hc path i s h1 h2 (by intro e;subst e;simp at h0) hi
def runB(md:Region.Mode)(ops:Array Oper)(s:Nat)(strict:Bool):List (Nat×Option Tmp×List Nat)->Array Bool->Bool
 |[],_=>true
 |(i,_,path)::r,listed=>(Region.ready md ops listed).contains i&&Region.free md ops listed i&&(i !=s)&&(!strict||upB md ops s i path)&&runB md ops s strict r (listed.setIfInBounds i true)
def zw:List (Nat×Option Tmp×List Nat)->Array Bool->Array Bool
 |[],l=>l
 |(i,_,_)::r,l=>zw r (l.setIfInBounds i true)
def zk:List (Nat×Option Tmp×List Nat)->List Value->Act->Act
 |(_,d,_)::r,v::vs,a=>zk r vs (a.put d v)
 |_,_,a=>a
def ZV(P:Program)(ops:Array Oper):List (Nat×Option Tmp×List Nat)->List Value->Act->World->Prop
 |(i,d,_)::r,v::vs,a,w=>(∃o,ops[i]? =some o/\o.dst=d/\((Region.wanted o (yielded ops a.tmps)=true/\(execOp a.eval o).run P w= .ok (.value v) w)\/(Region.wanted o (yielded ops a.tmps)=false/\v=undef)))/\ZV P ops r vs (a.put d v) w
 |[],[],_,_=>True
 |_,_,_,_=>False
theorem zu{i:Nat}{d:Option Tmp}{path:List Nat}{r:List (Nat×Option Tmp×List Nat)}{v:Value}{vs:List Value}{a:Act}{w:World}{o:Oper}(ho:ops[i]? =some o)(hd:o.dst=d)
  (hw:Region.wanted o (yielded ops a.tmps)=true) (h:(execOp a.eval o).run P w= .ok (.value v) w) (hr:ZV P ops r vs (a.put d v) w):ZV P ops ((i,d,path)::r) (v::vs) a w:=⟨⟨o,ho,hd,.inl ⟨hw,h⟩⟩,hr⟩
theorem looks_skip{i:Nat}{d:Option Tmp}{path:List Nat}{r:List (Nat×Option Tmp×List Nat)}{vs:List Value}{a:Act}{w:World}{o:Oper}(ho:ops[i]? =some o)(hd:o.dst=d)
  (hw:Region.wanted o (yielded ops a.tmps)=false) (hr:ZV P ops r vs (a.put d undef) w):ZV P ops ((i,d,path)::r) (undef::vs) a w:=⟨⟨o,ho,hd,.inr ⟨hw,rfl⟩⟩,hr⟩
theorem looks_yields{i:Nat}{d:Option Tmp}{path:List Nat}{r:List (Nat×Option Tmp×List Nat)}{v:Value}{vs:List Value}{a:Act}{o:Oper}(ho:ops[i]? =some o){T:World->Prop}{w0:World}(h0:T w0)
  (h: ∀w,T w->ZV P ops ((i,d,path)::r) (v::vs) a w):YieldsIf P ops T o v a/\o.dst=d:=by
 have h1:=(h w0 h0).1;obtain⟨o',ho',hd,h2⟩:=h1;have e:o'=o:=Option.some.inj (ho'.symm.trans ho);subst e;refine⟨?_,hd⟩;rcases h2 with⟨hw,_⟩|⟨hw,hv⟩
 ·refine .inl ⟨hw,fun w hT=> ?_⟩
  obtain⟨o2,ho2,_,h3⟩:=(h w hT).1;have e:o2=o':=Option.some.inj (ho2.symm.trans ho);subst e;rcases h3 with⟨_,h3⟩|⟨h3,_⟩
  ·exact h3
  ·rw[hw] at h3;cases h3
 ·exact .inr ⟨hw,hv⟩
theorem wpAnyS_looks{T:World->Prop}(strict:Bool)(hTS:(∀w,T w)\/((∀w,S w->T w)/\strict=true))(hsel:Region.noSelect ops=true): ∀(is:List (Nat×Option Tmp×List Nat)) (vs:List Value) (fuel:Nat) (listed:Array Bool) (a:Act) (w:World),
  Closed md ops listed->runB md ops s strict is listed=true->T w->(listed.getD s false=false->S w)->(∀w',T w'->ZV P ops is vs a w')->
  qg P md ops (NoPanic Q) S s fuel (zw is listed) (zk is vs a) w->qg P md ops (NoPanic Q) S s (fuel+is.length) listed a w
 |[],vs,fuel,listed,a,w,_,_,_,_,_,h=>h
 |(i,d,path)::r,[],fuel,listed,a,w,_,_,hT,_,hl,_=>(hl w hT).elim
 |(i,d,path)::r,v::vs,fuel,listed,a,w,hcl,hB,hT,hS,hl,h=>by
  simp only[runB,Bool.and_eq_true,bne_iff_ne,ne_eq] at hB;obtain⟨⟨⟨⟨hr,hf⟩,his⟩,hup⟩,hB'⟩:=hB;have hr':i∈Region.ready md ops listed:=by simpa using hr
  obtain⟨o,ho,_,_⟩:=(hl w hT).1;obtain⟨hy,hd⟩:=looks_yields ho hT hl;subst hd;refine wpAnyS_first (T:=T) (v:=v) ho (Region.noSelect_spec hsel) (fun _ _ _ h=>(h:False).elim) ?_ (fuel+r.length) listed a w hcl (Region.free_spec ho hf) hr' hy hT hS his ?_
  ·intro listed' hc' hi'
   rcases hTS with h|⟨h,hst⟩
   ·exact .inl h
   ·exact .inr ⟨h,up_spec (path:=path) (by simpa[hst] using hup) listed' hc' hi'⟩
  ·refine wpAnyS_looks strict hTS hsel r vs fuel _ _ w (hcl.add hr') hB' hT (fun hls=>hS ?_) (fun w' hw'=>(hl w' hw').2) h
   rw[getD_set_ne false his] at hls;exact hls
theorem zq(is:List (Nat×Option Tmp×List Nat))(vs:List Value)(fuel:Nat){listed:Array Bool}{a:Act}{w:World}
  (hB:(closedB md ops listed&&Region.noSelect ops&&runB md ops s true is listed)=true) (hS:S w) (hl: ∀w',S w'->ZV P ops is vs a w')
  (h:qg P md ops (NoPanic Q) S s fuel (zw is listed) (zk is vs a) w):qg P md ops (NoPanic Q) S s (fuel+is.length) listed a w:=by
 simp only[Bool.and_eq_true] at hB;exact wpAnyS_looks true (.inr ⟨fun _ h=>h,rfl⟩) hB.1.2 is vs fuel listed a w (closed_of hB.1.1) hB.2 hS (fun _=>hS) hl h
theorem zU(is:List (Nat×Option Tmp×List Nat))(vs:List Value)(fuel:Nat){listed:Array Bool}{a:Act}{w:World}
  (hB:(closedB md ops listed&&Region.noSelect ops&&runB md ops s false is listed)=true) (hS:S w\/listed.getD s false=true) (hl: ∀w',ZV P ops is vs a w')
  (h:qg P md ops (NoPanic Q) S s fuel (zw is listed) (zk is vs a) w):qg P md ops (NoPanic Q) S s (fuel+is.length) listed a w:=by
 simp only[Bool.and_eq_true] at hB;exact wpAnyS_looks (T:=fun _=>True) false (.inl fun _=>trivial) hB.1.2 is vs fuel listed a w (closed_of hB.1.1) hB.2 trivial (fun hls=>hS.elim id (fun h=>by rw[hls] at h;cases h)) (fun w' _=>hl w') h
def Then2(a b:Prop):Prop:=a/\b
def Owed(i s:Nat)(listed:Array Bool)(p:Prop):Prop:=i≠s->listed.getD s false=false->p
theorem yz{i s:Nat}{listed:Array Bool}{p:Prop}(h:p):Owed i s listed p:=fun _ _=>h
theorem zJ{i s:Nat}{listed:Array Bool}{p:Prop}(h:i=s):Owed i s listed p:=fun hn=>(hn h).elim
theorem qb{i s:Nat}{listed:Array Bool}{p:Prop}(h:listed.getD s false=true):Owed i s listed p:=fun _ h2=>by rw[h] at h2;cases h2
theorem zd{a b:Prop}(ha:a)(hb:b):Then2 a b:=⟨ha,hb⟩
theorem vp{i:Nat}{o:Oper}{fuel:Nat}{listed:Array Bool}{a:Act}{w:World}(hr:Region.ready md ops listed=[i])(ho:ops[i]? =some o)
  (h:wpList P ops (Exit.then (fun a' w'=>Then2 (Owed i s listed (S w')) (qg P md ops Q S s fuel (listed.setIfInBounds i true) a' w')) Q) [o] a w):qg P md ops Q S s (fuel+1) listed a w:=by
 refine⟨fun h0=>(by rw[hr] at h0;cases h0),fun j hj=> ?_⟩;rw[hr] at hj;obtain rfl:j=i:=by simpa using hj
 unfold wpOp;simp only[ho];unfold wpList at h;split
 ·rename_i hw
  rw[if_pos hw] at h;rcases h with h|⟨h1,a',w',h2⟩
  ·refine .inl ?_
   unfold Oper.wp at h⊢;generalize (execOp a.eval o).run P w=r at h⊢;cases r with
   |ok n w'=>
    cases n<;>simp only[Oper.upon] at h⊢ <;>exact h
   |halt x w'=>cases x<;>simp only[Oper.upon] at h⊢ <;>exact h
  ·exact .inr ⟨h1,a',w',h2⟩
 ·rename_i hw
  rw[if_neg hw] at h;exact h
theorem w1(i fuel:Nat){o:Oper}{listed:Array Bool}{a:Act}{w:World}(hr:Region.ready md ops listed=[i])(ho:ops.toList[i]? =some o)
  (h:wpList P ops (Exit.then (fun a' w'=>Then2 (Owed i s listed (S w')) (qg P md ops Q S s fuel (listed.setIfInBounds i true) a' w')) Q) [o] a w):qg P md ops Q S s (fuel+1) listed a w:=
 vp hr ((Array.getElem?_toList ..).symm.trans ho) h
theorem wpAnyS_two{i j:Nat}{fuel:Nat}{listed:Array Bool}{a:Act}{w:World}(hr:Region.ready md ops listed=[i,j])
  (hi:wpOp P ops Q i (fun a' w'=>(i≠s->listed.getD s false=false->S w')/\qg P md ops Q S s fuel (listed.setIfInBounds i true) a' w') a w)
  (hj:wpOp P ops Q j (fun a' w'=>(j≠s->listed.getD s false=false->S w')/\qg P md ops Q S s fuel (listed.setIfInBounds j true) a' w') a w):qg P md ops Q S s (fuel+1) listed a w:=by
 refine⟨fun h0=>(by rw[hr] at h0;cases h0),fun k hk=> ?_⟩;rw[hr] at hk;have:k=i\/k=j:=by simpa using hk
 rcases this with rfl|rfl
 ·exact hi
 ·exact hj
theorem Zf{K:Act->World->Prop}{i:Nat}{o:Oper}{a:Act}{w:World}(ho:ops[i]? =some o)(h:wpList P ops (Exit.then K Q) [o] a w):wpOp P ops Q i K a w:=by
 unfold wpOp;simp only[ho];unfold wpList at h;split
 ·rename_i hw
  rw[if_pos hw] at h;rcases h with h|⟨h1,a',w',h2⟩
  ·refine .inl ?_
   unfold Oper.wp at h⊢;generalize (execOp a.eval o).run P w=r at h⊢;cases r with
   |ok n w'=>
    cases n<;>simp only[Oper.upon] at h⊢ <;>exact h
   |halt x w'=>cases x<;>simp only[Oper.upon] at h⊢ <;>exact h
  ·exact .inr ⟨h1,a',w',h2⟩
 ·rename_i hw
  rw[if_neg hw] at h;exact h
theorem zv{listed:Array Bool}{a:Act}{w:World}(hr:Region.ready md ops listed=[])(h:Q .normal a w):
  ∀fuel,qg P md ops (NoPanic Q) S s fuel listed a w
 |0=>⟨hr,h⟩
 |_+1=>⟨fun _=>h,by rw[hr];simp⟩
theorem qu{id:Nat}{l:List Oper}{a:Act}{w:World}(S:World->Prop)(s n:Nat)(hm:P.follows .mixedOrders=true)(hn:l.length=n)(hS:S w.drew)
  (h: ∀W,S W->qg P .any l.toArray (NoPanic Q) S s n (Array.replicate n false) a W):(Code.region id l.toArray true).wp P Q a w:=by
 subst hn;refine wp_region_noPanic (wp_region_any hm (gX (S:=S) (s:=s) _ _ _ _ ?_));have:=h _ hS;simpa using this
end
end Go.Proofs.YtaccidkgnkmagaaGreatDoor
