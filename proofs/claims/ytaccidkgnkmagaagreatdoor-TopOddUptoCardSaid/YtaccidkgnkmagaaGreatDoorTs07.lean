/-
  Walks and laws of the whole machine: Pipe2, Adopt, Heap, Heap2, Port, Port2, In. Conditions: each theorem names its own.
-/
import Derived.Test.YtaccidkgnkmagaaGreatDoorTs06
import Derived.RangeFuncNested
import Derived.RangeFuncBound
import Derived.RangeFuncCalls
import Derived.RangeFuncLeaves
import Derived.RangeFuncBox
import Derived.OwnWalkIn
import Derived.TacticsInMore
import Derived.LoopNIn
import Derived.LoopIn
set_option maxRecDepth 16000
set_option maxHeartbeats 12800000
set_option linter.unusedVariables false
set_option linter.unusedSimpArgs false
namespace Go.Proofs.YtaccidkgnkmagaaGreatDoor.Top
open Go.RowKit
def PipesR(n:Nat)(X:Nat->Prop)(w:World)(e:Ending)(w':World):Prop:=
 ∃(v:Value) (l:List (Array Value)),e= .returned v/\Sl 3 v l X w' /\(∀r∈l,Ty vl r)/\l.length<=n/\Below w.heap.size w w'
theorem pipe_lit{x:Array Value}(h:Ty vl x): ∃(d:ByteArray) (r u:Int),x= #[.string d,.int .i64 r,.int .i64 u]:=by
 obtain⟨d,h0,_⟩:=h.str 0 rfl;obtain⟨r,h1,_⟩:=h.i64 1 rfl;obtain⟨u,h2,_⟩:=h.i64 2 rfl;have hs:x.size=3:=h.size;refine⟨d,r,u,Array.ext_getElem? fun i=> ?_⟩;rcases i with _|_|_|i
 ·exact h0
 ·exact h1
 ·exact h2
 ·rw[Array.getElem?_eq_none (by omega),Array.getElem?_eq_none (by simp)]
theorem gZ(x:Int): -9223372036854775808<=wrap64 x/\wrap64 x<=9223372036854775807:=by
 simp only[wrap64];omega
theorem set_all{p:Array Value->Prop}{l:List (Array Value)}{i:Nat}{x:Array Value}(hl: ∀r∈l,p r)(hx:p x): ∀r∈l.set i x,p r:=by
 intro r hr;rcases List.mem_or_eq_of_mem_set hr with h|rfl
 ·exact hl r h
 ·exact hx
theorem ty_patch1{ks:List Kd}{C:Array Value}(h:Ty ks C){j:Nat}{k:Kd}{v:Value}(hk:ks[j]? =some k)(hv:okV k v):Ty ks (patch C j #[v]):=by
 have hj:j<C.size:=by rw[h.size];exact(List.getElem?_eq_some_iff.1 hk).1
 rw[patch_one C j v hj];exact h.set hk hv
theorem pipes_end{B n i:Nat}{v:Value}{l:List (Array Value)}{x:Array Value}{X:Nat->Prop}{w W:World}(hown:W.ownsRow B 170 3 v n (yy (l.set i x)))(hn:l.length=n)(hl: ∀r∈l,Ty vl r)(hx:Ty vl x)(hX: ∀b,X b->b<B)(hb:Below w.heap.size w W):PipesR n X w (.returned v) W:=by
 subst hn;have ha:=set_all (i:=i) hl hx;refine⟨v,_,rfl,zV (base:=B) (e:=170) ?_ (fun q hq=>(ha q hq).size) hX,ha,by simp,hb⟩;rw[List.length_set];exact hown
theorem own_read{base e size n:Nat}{g c:Nat}{l:List (Array Value)}{w:World}(hown:w.ownsRow base e size (.slice (some ⟨g,0,none⟩) n c) n (yy l))(hn:l.length=n)(hs: ∀r∈l,r.size=size){i:Nat}{r:Array Value}(hi:l[i]? =some r){j:Nat}{u:Value}(hj:r[j]? =some u):w.cell? ⟨g,i*size+j,none⟩=some u:=by
 subst hn;have h0:0<size:=by have:=hs r (List.mem_of_getElem? hi);have:=(Array.getElem?_eq_some_iff.1 hj).1;omega
 obtain⟨b,o,e1,_,_,_,hc⟩:=(zV hown hs (X:=fun _=>False) (fun _ h=>h.elim)).row hi h0;injection e1 with e1;injection e1 with e2 e3;subst e2 e3;have:=hc j u hj;simpa using this
theorem qf(v:Value)(l:List (Array Value))(x:Int)(b:Bool)(d:Int)(X:Nat->Prop)(w:World)(h:Sl 3 v l X w)(hl: ∀r∈l,Ty vl r)(hle:l.length<=10000000)(hX: ∀b,X b->b<w.heap.size):
  Calls Tryz.prog 66 #[v,.agg #[.int .i64 x,.bool b],.int .i64 d] w (PipesR l.length X w):=by
 obtain⟨A,c,rfl,hlc,hcm⟩:=h.len;have H:=Lib.hid h;have HL:=Lib.hid hl;clear h hl hcm;have H1:Hid (∀r∈l,yZ r):=fun r hr=>(HL.out r hr).one;have HS:Hid (∀r∈l,r.size=3):=fun r hr=>(HL.out r hr).size;by_cases hx1:x<1
 ·have d1:decide (x<1)=true:=decide_eq_true hx1
  go_enter Tryz.func66,Tryz.ntmps66;go_wp2_with(first|((with_reducible refine zp ?_);first|go_big_skip|refine zg rfl rfl rfl (by with_reducible rfl) ?_)|(refine yf rfl 127 (.tmp 1) rfl _ rfl _ rfl ?_;intro W1 hk1 hb1 hz1;have g0:W1.cell? ⟨w.heap.size,0,none⟩=some (.int .i64 _):=hk1.rules.1 0;have g1:W1.cell? ⟨w.heap.size,1,none⟩=some (.bool _):=hk1.rules.1 1))
  go_ret
  exact⟨_,l,rfl,(zb _ _ _).step H.out (Only.of_below hb1),HL.out,Nat.le_refl _,hb1⟩
 ·have d1:decide (x<1)=false:=decide_eq_false hx1
  by_cases hx2:(l.length:Int)<x
  ·go_enter Tryz.func66,Tryz.ntmps66
   go_wp2_with(first|((with_reducible refine zp ?_);first|go_big_skip|refine zg rfl rfl rfl (by with_reducible rfl) ?_)|(refine yf rfl 127 (.tmp 1) rfl _ rfl _ rfl ?_;intro W1 hk1 hb1 hz1;have g0:W1.cell? ⟨w.heap.size,0,none⟩=some (.int .i64 _):=hk1.rules.1 0;have g1:W1.cell? ⟨w.heap.size,1,none⟩=some (.bool _):=hk1.rules.1 1))
   go_ret
   exact⟨_,l,rfl,(zb _ _ _).step H.out (Only.of_below hb1),HL.out,Nat.le_refl _,hb1⟩
  ·obtain⟨i,rfl,hi⟩: ∃i:Nat,x=(i:Int)+1/\i<l.length:=⟨(x-1).toNat,by omega,by omega⟩
   clear hx1 hx2 d1;have d1:decide ((i:Int)+1<1)=false:=decide_eq_false (by omega);have d2:((l.length:Int)<(i:Int)+1)=False:=by rw[eq_iff_iff,iff_false];omega
   obtain⟨r,hr⟩: ∃r,l[i]? =some r:=⟨l[i],List.getElem?_eq_getElem hi⟩;obtain⟨pd,pr,pu,rfl⟩:=pipe_lit (HL.out r (List.mem_of_getElem? hr));have HR:=Lib.hid hr;clear hr;cases b;all_goals
    go_enter Tryz.func66,Tryz.ntmps66;go_wp2_with(first|((with_reducible refine zp ?_);first|go_big_skip|refine zg rfl rfl rfl (by with_reducible rfl) ?_)|(refine yf rfl 127 (.tmp 1) rfl _ rfl _ rfl ?_;intro W1 hk1 hb1 hz1;have g0:W1.cell? ⟨w.heap.size,0,none⟩=some (.int .i64 _):=hk1.rules.1 0;have g1:W1.cell? ⟨w.heap.size,1,none⟩=some (.bool _):=hk1.rules.1 1));refine(jf _ l X W1 ((zb _ _ _).step H.out (Only.of_below hb1)) H1.out (by omega)).mono ?_;rintro e W2 ⟨v2,rfl,hown2,hb2⟩;have hk2:=hk1.below hb2;have HB2:=Lib.hid (hb1.trans (hb2.mono (by omega)));obtain⟨g,cap,cur,rfl,hbg,_,hnc,hcm,_,_⟩:=xI hown2 (by omega);unfold maxLen at hcm;have g0:W2.cell? ⟨w.heap.size,0,none⟩=some (.int .i64 _):=hk2.rules.1 0;have g1:W2.cell? ⟨w.heap.size,1,none⟩=some (.bool _):=hk2.rules.1 1;have q1:=own_read hown2 rfl HS.out HR.out (j:=1) rfl;have q2:=own_read hown2 rfl HS.out HR.out (j:=2) rfl;have HO2:=Lib.hid hown2;have hbs:w.heap.size<=W1.heap.size:=by omega
    clear hk1 hb1 hb2 hk2 hown2;go_wp2_with(first|(refine jq HO2.out HS.out rfl i _ HR.out 1 #[.int .i64 _] (Nat.le_of_ble_eq_true rfl) (zm rfl) rfl rfl rfl rfl rfl rfl rfl (Tryz.sizeOf3 _) ?_;intro W3 hown3 hb3 hz3)|(refine jq HO2.out HS.out rfl i _ HR.out 2 #[.int .i64 _] (Nat.le_of_ble_eq_true rfl) (zm rfl) rfl rfl rfl rfl rfl rfl rfl (Tryz.sizeOf3 _) ?_;intro W3 hown3 hb3 hz3))
    go_ret
    exact pipes_end hown3 rfl HL.out (ty_patch1 (HL.out _ (List.mem_of_getElem? HR.out)) rfl ⟨_,rfl,gZ _⟩) (fun b hb=>by have:=hX b hb;omega) (HB2.out.trans (hb3.mono hbs))
def idleB(r:Array Value):Bool:=decide (zQ r 1<=0)&&decide (zQ r 2<=0)
theorem idle_any(r:Array Value)(w:World)(hr:Ty vl r):Calls Tryz.prog 191 (#[.agg r]++ #[]) w fun e w'=>e= .returned (.bool (idleB r))/\Below w.heap.size w w':=by
 obtain⟨d,x,y,rfl⟩:=pipe_lit hr;clear hr;have hv:idleB #[.string d,.int .i64 x,.int .i64 y]=(decide (x<=0)&&decide (y<=0)):=rfl;rw[hv];clear hv;by_cases h1:x<=0
 ·have d1:decide (x<=0)=true:=decide_eq_true h1
  go_enter Tryz.func191,Tryz.ntmps191;go_wp2_with(first|((with_reducible refine zp ?_);first|go_big_skip|refine zg rfl rfl rfl (by with_reducible rfl) ?_)|(refine yf rfl 170 (.tmp 0) rfl _ rfl _ rfl ?_;intro W1 hk1 hb1 hz1;have g0:W1.cell? ⟨w.heap.size,1,none⟩=some (.int .i64 _):=hk1.rules.1 1;have g1:W1.cell? ⟨w.heap.size,2,none⟩=some (.int .i64 _):=hk1.rules.1 2))
  go_ret
  exact⟨by simp[h1],hb1⟩
 ·have d1:decide (x<=0)=false:=decide_eq_false h1
  go_enter Tryz.func191,Tryz.ntmps191;go_wp2_with(first|((with_reducible refine zp ?_);first|go_big_skip|refine zg rfl rfl rfl (by with_reducible rfl) ?_)|(refine yf rfl 170 (.tmp 0) rfl _ rfl _ rfl ?_;intro W1 hk1 hb1 hz1;have g0:W1.cell? ⟨w.heap.size,1,none⟩=some (.int .i64 _):=hk1.rules.1 1;have g1:W1.cell? ⟨w.heap.size,2,none⟩=some (.int .i64 _):=hk1.rules.1 2))
  go_ret
  exact⟨by simp[h1],hb1⟩
theorem isFn191:Zp Tryz.prog 191:=⟨_,Tryz.func191,by kernel_rfl,by kernel_rfl⟩
def PMakeR(X:Nat->Prop)(w:World)(e:Ending)(w':World):Prop:=
 ∃(v:Value) (l:List (Array Value)) (x y:Int),e= .returned (.tuple #[v,.int .i64 x,.int .i64 y])/\Sl 3 v l X w' /\(∀r∈l,Ty vl r)/\l.length<=4/\0<=x/\x<=4/\(y=0\/y=5)/\Below w.heap.size w w'
theorem zpipe_ty:Ty vl #[.string ⟨#[]⟩,.int .i64 1,.int .i64 1]:=
 ⟨⟨_,rfl,by decide⟩,⟨1,rfl,by decide,by decide⟩,⟨1,rfl,by decide,by decide⟩,trivial⟩
theorem zpipe_ty0:Ty vl #[.string ⟨#[]⟩,.int .i64 0,.int .i64 0]:=
 ⟨⟨_,rfl,by decide⟩,⟨0,rfl,by decide,by decide⟩,⟨0,rfl,by decide,by decide⟩,trivial⟩
theorem xl{p:Array Value->Prop}{l:List (Array Value)}{x:Array Value}(hl: ∀r∈l,p r)(hx:p x): ∀r∈l++ [x],p r:=by
 intro r hr;rcases List.mem_append.1 hr with h|h
 ·exact hl r h
 ·rw[List.mem_singleton.1 h];exact hx
theorem get_last(l:List (Array Value))(x:Array Value):(l++ [x])[l.length]? =some x:=by
 rw[List.getElem?_append_right (Nat.le_refl _),Nat.sub_self];rfl
theorem pmake_end{B n i:Nat}{v:Value}{l:List (Array Value)}{r:Array Value}{y:Int}{X:Nat->Prop}{w W:World}(hown:W.ownsRow B 170 3 v n (yy (l.set i (patch r 0 #[.string ⟨#[]⟩,.int .i64 1,.int .i64 1]))))(hn:l.length=n)(hl: ∀r∈l,Ty vl r)(hr:Ty vl #[.string ⟨#[]⟩,.int .i64 1,.int .i64 1])(hX: ∀b,X b->b<B)(hle:n<=4)(hy0:0<=y)(hy1:y<=4)(hb:Below w.heap.size w W)(hrs:r.size=3:=by rfl):PMakeR X w (.returned (.tuple #[v,.int .i64 y,.int .i64 0])) W:=by
 rw[xU r _ (by rw[hrs];rfl)] at hown;obtain⟨v',l',e,h1,h2,h3,h4⟩:=pipes_end hown hn hl hr hX hb;injection e with e;subst e;exact⟨v,l',y,0,rfl,h1,h2,by omega,hy0,hy1,.inl rfl,h4⟩
theorem pmake_any(v:Value)(l:List (Array Value))(X:Nat->Prop)(w:World)(h:Sl 3 v l X w)(hl: ∀r∈l,Ty vl r)(hle:l.length<=4)(hX: ∀b,X b->b<w.heap.size):
  Calls Tryz.prog 177 #[v] w (PMakeR X w):=by
 obtain⟨A,c,rfl,hlc,hcm⟩:=h.len;have H:=Lib.hid h;have HL:=Lib.hid hl;clear h hl hcm;have H1:Hid (∀r∈l,yZ r):=fun r hr=>(HL.out r hr).one;have HS:Hid (∀r∈l,r.size=3):=fun r hr=>(HL.out r hr).size;go_enter Tryz.func177,Tryz.ntmps177;go_wp2_with fail;refine(idxPipe_any _ l _ idleB X w H.out w.heap.size (Nat.le_refl _) ⟨191,#[],rfl,isFn191,fun r hr W _=>idle_any r W (HL.out r hr)⟩).mono ?_;rintro e W1 ⟨rfl,hb1⟩;have HB1:=Lib.hid hb1;have hz1:=hb1.size;have HSl1:=Lib.hid ((zb _ _ _).step H.out (Only.of_below hb1));clear hb1;rcases qG idleB l with⟨hi,_⟩|⟨j,hi,hj,_⟩
 ·rw[hi]
  clear hi;by_cases h4:(4:Int)<=(l.length:Int)
  ·go_wp2_with fail
   go_ret3
   exact⟨_,l,0,5,rfl,HSl1.out,HL.out,hle,by omega,by omega,.inr rfl,HB1.out⟩
  ·go_wp2_with fail
   refine(jf _ l X W1 HSl1.out H1.out (by omega)).mono ?_;rintro e W2 ⟨v2,rfl,hown2,hb2⟩;have HO2:=Lib.hid hown2;have HB2:=Lib.hid (HB1.out.trans (hb2.mono hz1));obtain⟨A2,c2,rfl,_⟩:=yb hown2;have hz2:=hb2.size;clear hown2 hb2;go_wp2_with(first|(refine yQ elPipe rfl rfl rfl rfl rfl (by decide) (by decide) ?_;intro W3 hk3 hb3 hz3)|(refine yO elPipe (by decide) rfl (.tmp 22) (.tmp 24) rfl W1.heap.size _ l rfl (gy HO2.out hb3) (fun _=>False) _ [_] rfl (qU hk3 rfl (Nat.le_refl 1) (by unfold maxLen;omega)) (by intro r hr;simp at hr;subst hr;exact zm rfl) (by simp;omega) (by omega) (by omega) ?_;intro v' W4 hown4 hb4 hz4 _ _;simp only[List.length_append,List.length_cons,List.length_nil,Nat.zero_add] at hown4;obtain⟨g,cap,cur,rfl,hbg,hkc,hnc,hcm,hcs,htk⟩:=xI hown4 (by omega))|(refine jq hown4 (xl HS.out rfl) (by simp) l.length #[.string ⟨#[]⟩,.int .i64 0,.int .i64 0] (get_last l _) 0 #[.string ⟨#[]⟩,.int .i64 1,.int .i64 1] (Nat.le_of_ble_eq_true rfl) (zm rfl) rfl rfl rfl rfl rfl rfl rfl (Tryz.sizeOf170 _) ?_;intro W5 hown5 hb5 hz5))
   go_ret3
   exact pmake_end hown5 (by simp) (xl HL.out zpipe_ty0) zpipe_ty (fun b hb=>by have:=hX b hb;omega) (by omega) (by omega) (by omega) (HB2.out.trans ((hb3.mono (by omega)).trans ((hb4.mono hz1).trans (hb5.mono hz1))))
 ·rw[hi]
  clear hi;have d1:decide ((j:Int)<0)=false:=decide_eq_false (by omega);have d2:((j:Int)==(l.length:Int))=false:=by rw[beq_eq_false_iff_ne];omega
  go_wp2_with fail;refine(jf _ l X W1 HSl1.out H1.out (by omega)).mono ?_;rintro e W2 ⟨v2,rfl,hown2,hb2⟩;have HO2:=Lib.hid hown2;have HB2:=Lib.hid (HB1.out.trans (hb2.mono hz1));obtain⟨g,cap,cur,rfl,hbg,hkc,hnc,hcm,hcs,htk⟩:=xI hown2 (by omega);unfold maxLen at hcm;have hz2:=hb2.size;obtain⟨r,hr⟩: ∃r,l[j]? =some r:=⟨l[j],List.getElem?_eq_getElem hj⟩;obtain⟨pd,pr,pu,rfl⟩:=pipe_lit (HL.out r (List.mem_of_getElem? hr));have HR:=Lib.hid hr;clear hown2 hb2 hr;go_wp2_with(refine jq HO2.out HS.out rfl j _ HR.out 0 #[.string ⟨#[]⟩,.int .i64 1,.int .i64 1] (Nat.le_of_ble_eq_true rfl) (zm rfl) rfl rfl rfl rfl rfl rfl rfl (Tryz.sizeOf170 _) ?_;intro W5 hown5 hb5 hz5)
  go_ret3
  exact pmake_end hown5 rfl HL.out zpipe_ty (fun b hb=>by have:=hX b hb;omega) (by omega) (by omega) (by omega) (HB2.out.trans (hb5.mono hz1))
def upto(f:Array Value->Array Value)(k:Nat)(l:List (Array Value)):List (Array Value):=(l.take k).map f++l.drop k
section
variable{f:Array Value->Array Value}{k:Nat}{l:List (Array Value)}{r:Array Value}
theorem upto_zero(f:Array Value->Array Value)(l:List (Array Value)):upto f 0 l=l:=by simp[upto]
theorem upto_len(f:Array Value->Array Value)(k:Nat)(l:List (Array Value)):(upto f k l).length=l.length:=by simp[upto];omega
theorem upto_all(f:Array Value->Array Value)(l:List (Array Value))(h:l.length<=k):upto f k l=l.map f:=by simp[upto,List.take_of_length_le h,List.drop_eq_nil_of_le h]
theorem upto_get(hr:l[k]? =some r):(upto f k l)[k]? =some r:=by
 have hk:=(List.getElem?_eq_some_iff.1 hr).1;have e:((l.take k).map f).length=k:=by simp;omega
 unfold upto;rw[List.getElem?_append_right (by omega),e,Nat.sub_self,List.getElem?_drop];simpa using hr
theorem upto_set(hr:l[k]? =some r):(upto f k l).set k (f r)=upto f (k+1) l:=by
 have hk:=(List.getElem?_eq_some_iff.1 hr).1;have e:((l.take k).map f).length=k:=by simp;omega
 have hd:l.drop k=r::l.drop (k+1):=by
  rw[List.drop_eq_getElem_cons hk];have:=(List.getElem?_eq_some_iff.1 hr).2;rw[this]
 have ht:l.take (k+1)=l.take k++ [r]:=by
  rw[List.take_add_one,hr];rfl
 unfold upto;rw[hd,ht,List.set_append_right _ _ (by omega),e,Nat.sub_self];simp
theorem upto_next(hr:l[k]? =some r)(hf:f r=r):upto f k l=upto f (k+1) l:=by
 rw[<-upto_set hr,hf];have:=upto_get (f:=f) hr;obtain⟨h1,h2⟩:=List.getElem?_eq_some_iff.1 this;rw[<-h2,List.set_getElem_self]
theorem upto_mem{p:Array Value->Prop}(hl: ∀r∈l,p r)(hf: ∀r∈l,p (f r)): ∀r∈upto f k l,p r:=by
 intro r hr;rcases List.mem_append.1 hr with h|h
 ·obtain⟨q,hq,rfl⟩:=List.mem_map.1 h
  exact hf q (List.mem_of_mem_take hq)
 ·exact hl r (List.mem_of_mem_drop h)
end
def adopt(x y:Int)(r:Array Value):Array Value:=if ym r==x then patch r 1 #[.int .i64 y] else r
theorem adopt_ty{x y:Int}{r:Array Value}(h:Ty yu r)(h0: -9223372036854775808<=y)(h1:y<=9223372036854775807):Ty yu (adopt x y r):=by
 unfold adopt;split
 ·exact ty_patch1 h (j:=1) rfl ⟨y,rfl,h0,h1⟩
 ·exact h
def MapR(f:Array Value->Array Value)(l:List (Array Value))(X:Nat->Prop)(w:World)(e:Ending)(w':World):Prop:=
 ∃v,e= .returned v/\Sl 26 v (l.map f) X w' /\Below w.heap.size w w'
theorem adopt_any(v:Value)(l:List (Array Value))(x y:Int)(X:Nat->Prop)(w:World)(h:Sl 26 v l X w)(hl: ∀r∈l,Ty yu r)(hle:l.length<=1000000)(hX: ∀b,X b->b<w.heap.size)(h0: -9223372036854775808<=y)(h1:y<=9223372036854775807):
  Calls Tryz.prog 132 #[v,.int .i64 x,.int .i64 y] w (MapR (adopt x y) l X w):=by
 obtain⟨A,c,rfl,hlc,hcm⟩:=h.len;have H:=Lib.hid h;have HL:=Lib.hid hl;clear h hl hcm;have H1:Hid (∀r∈l,yZ r):=fun r hr=>(HL.out r hr).one;have HS:Hid (∀k,∀r∈upto (adopt x y) k l,r.size=26):=fun k=>upto_mem (fun r hr=>(HL.out r hr).size) (fun r hr=>(adopt_ty (HL.out r hr) h0 h1).size);go_enter Tryz.func132,Tryz.ntmps132;go_wp2_with fail;refine(Zg _ l X w H.out H1.out (by omega)).mono ?_;rintro e W1 ⟨v2,rfl,hown,hb1⟩;obtain⟨A2,c2,rfl,_⟩:=yb hown;have HO1:=Lib.hid hown;have HB1:=Lib.hid hb1;clear hown hb1;go_wp2_with fail
 go_loopw [12] (fun i W=> ∃k:Nat,k<=l.length/\i= .int .i64 k/\Hid (W.ownsRow w.heap.size 132 26 (.slice A2 l.length c2) l.length (yy (upto (adopt x y) k l)))/\Hid (Below w.heap.size w W)) (fun i _=>l.length-(intOf i).toNat)
 case atStart=>exact⟨0,Nat.zero_le _,rfl,zj (by rw[upto_zero];exact HO1.out),HB1⟩
 case round=>
  obtain⟨k,hk,rfl,hO,hB⟩:=hrel;by_cases hlt:k<l.length
  ·obtain⟨r,hr⟩: ∃r,l[k]? =some r:=⟨l[k],List.getElem?_eq_getElem hlt⟩
   have hrt:=HL.out r (List.mem_of_getElem? hr);have e1:=xq hrt 1 rfl;change r[1]? =some (.int .i64 (ym r)) at e1;obtain⟨g,cap,cur,ev,hbg,_,hnc,hcm,_,_⟩:=xI hO.out (by omega);injection ev with ev1 _ ev2;subst ev1 ev2;unfold maxLen at hcm;have q1:=own_read hO.out (upto_len _ _ _) (HS.out k) (upto_get hr) e1;have HR:=Lib.hid hr;have HT:=Lib.hid hrt;obtain⟨z,hz⟩: ∃z,ym r=z:=⟨_,rfl⟩;rw[hz] at q1;have HZ:=Lib.hid hz;clear hr hrt e1 hz;by_cases hzx:z=x
   ·subst hzx
    go_wp2_with(refine jq hO.out (HS.out k) (upto_len _ _ _) k r (upto_get HR.out) 1 #[.int .i64 y] (Nat.le_of_ble_eq_true rfl) (zm rfl) rfl rfl rfl rfl rfl rfl rfl (Tryz.sizeOf3 _) ?_;intro W3 hown3 hb3 hz3)
    go_roundw
    case rel=>exact⟨k+1,by omega,by go_num,zj (by rw[<-upto_set HR.out,show adopt z y r=patch r 1 #[.int .i64 y] from by simp[adopt,HZ.out]];exact hown3),zj (hB.out.trans hb3)⟩
    case measure=>simp[intOf];omega
   ·have d1:(z==x)=false:=by rw[beq_eq_false_iff_ne];exact hzx
    go_wp2_with fail
    go_roundw
    case rel=>exact⟨k+1,by omega,by go_num,zj (by rw[<-upto_next HR.out (by simp[adopt,HZ.out,hzx])];exact hO.out),hB⟩
    case measure=>simp[intOf];omega
  ·have e:upto (adopt x y) k l=l.map (adopt x y):=upto_all _ _ (by omega)
   have HO:=Lib.hid (e▸hO.out);clear hO e;go_wp2_with fail
   go_ret
   exact⟨_,rfl,zV (base:=w.heap.size) (e:=132) (by rw[List.length_map];exact HO.out) (fun q hq=>by obtain⟨p,hp,rfl⟩:=List.mem_map.1 hq;exact(adopt_ty (HL.out p hp) h0 h1).size) hX,hB.out⟩
theorem span_lit{x:Array Value}(h:Ty vv x): ∃(a b c:Int),x= #[.int .i64 a,.int .i64 b,.int .i64 c]:=by
 obtain⟨a,h0,_⟩:=h.i64 0 rfl;obtain⟨b,h1,_⟩:=h.i64 1 rfl;obtain⟨c,h2,_⟩:=h.i64 2 rfl;have hs:x.size=3:=h.size;refine⟨a,b,c,Array.ext_getElem? fun i=> ?_⟩;rcases i with _|_|_|i
 ·exact h0
 ·exact h1
 ·exact h2
 ·rw[Array.getElem?_eq_none (by omega),Array.getElem?_eq_none (by simp)]
def BoolR(w:World)(e:Ending)(w':World):Prop:=(∃b:Bool,e= .returned (.bool b))/\Below w.heap.size w w'
def HNewR(w:World)(e:Ending)(w':World):Prop:=
 ∃(x y:Int),e= .returned (.tuple #[.agg #[.int .i64 x,.slice none 0 0],.int .i64 y])/\ -9223372036854775808<=x/\x<=9223372036854775807/\(y=0\/y=1)/\Below w.heap.size w w'
theorem hnew_any(x:Int)(w:World)(h0: -9223372036854775808<=x)(h1:x<=9223372036854775807):Calls Tryz.prog 51 #[.int .i64 x] w (HNewR w):=by
 have k:Hid (St (fun _=>False) (fun _=>False) w [] (fun _ _=>True) (fun _=>False) w):=St.begin (fun _ h=>h.elim) trivial xZ;by_cases hx:x<0
 ·go_enter Tryz.func51,Tryz.ntmps51
  go_wp2_with(first|((with_reducible refine zx ?_);refine soa k rfl rfl rfl .a0 (by rfl) (by rfl) (zm rfl) ?_;clear k;intro W k)|((with_reducible refine zf ?_);refine zG k rfl (T:=50) rfl (Tryz.zeroValue50 _) ?_;clear k;intro b X W k));exact bodyPost_ret (yh rfl _ rfl rfl (zY k.out 0 rfl 50 (Tryz.isAgg50 _) (Tryz.sizeOf50 _) rfl)) rfl ⟨0,1,rfl,by omega,by omega,.inr rfl,k.out.end⟩
 ·go_enter Tryz.func51,Tryz.ntmps51
  go_wp2_with(first|((with_reducible refine zx ?_);refine soa k rfl rfl rfl .a0 (by rfl) (by rfl) (zm rfl) ?_;clear k;intro W k)|((with_reducible refine zf ?_);refine zG k rfl (T:=50) rfl (Tryz.zeroValue50 _) ?_;clear k;intro b X W k));exact bodyPost_ret (yh rfl _ rfl rfl (zY k.out 0 rfl 50 (Tryz.isAgg50 _) (Tryz.sizeOf50 _) rfl)) rfl ⟨x,0,rfl,h0,h1,.inl rfl,k.out.end⟩
theorem hright_any(n:Int)(v:Value)(l:List (Array Value))(X:Nat->Prop)(w:World)(h:Sl 3 v l X w)(hl: ∀r∈l,Ty vv r)(hle:l.length<=10000000):
  Calls Tryz.prog 75 #[.agg #[.int .i64 n,v]] w (BoolR w):=by
 obtain⟨A,c,rfl,hlc,hcm⟩:=h.len;have H:=Lib.hid h;have HL:=Lib.hid hl;clear h hl hcm;go_enter Tryz.func75,Tryz.ntmps75;go_wp2_with(refine yf rfl 50 (.tmp 0) rfl _ rfl _ rfl ?_;intro W1 hk1 hb1 hz1;have g0:W1.cell? ⟨w.heap.size,0,none⟩=some (.int .i64 _):=hk1.rules.1 0;have g1:W1.cell? ⟨w.heap.size,1,none⟩=some (.slice _ _ _):=hk1.rules.1 1);have HB1:=Lib.hid hb1;have HK1:=Lib.hid hk1;clear hb1 hk1 g0 g1
 go_loopw [3,9] (fun p i W=> ∃(k:Nat) (q:Int),k<=l.length/\p= .int .i64 q/\i= .int .i64 k/\Hid (Below W1.heap.size W1 W)) (fun _ i _=>l.length-(intOf i).toNat)
 case atStart=>exact⟨0,0,Nat.zero_le _,rfl,rfl,Below.refl _ _⟩
 case round=>
  obtain⟨k,q,hk,rfl,rfl,hB⟩:=hrel;by_cases hlt:k<l.length
  ·obtain⟨r,hr⟩: ∃r,l[k]? =some r:=⟨l[k],List.getElem?_eq_getElem hlt⟩
   obtain⟨xa,xb,xc,rfl⟩:=span_lit (HL.out r (List.mem_of_getElem? hr));have hkw:=HK1.out.below hB.out;have hsz:=hB.out.size;obtain⟨b,o,rfl,hbs,_,_,hcell⟩:=((zb _ _ _).step H.out (Only.of_below (HB1.out.trans (hB.out.mono (by omega))))).row hr (by decide);have HC:=Lib.hid hcell;have HKW:=Lib.hid hkw;clear hcell hr hkw;by_cases hc0:xa<q
   ·have d0:decide (xa<q)=true:=decide_eq_true hc0
    go_wp2_with(first|((with_reducible refine zp ?_);first|go_big_skip)|(refine zZ rfl (.tmp 11) 165 rfl b _ 3 rfl #[.int .i64 xa,.int .i64 xb,.int .i64 xc] (Tryz.isAgg165 _) (Tryz.sizeOf165 _) rfl (fun j u hj=>by have:=HC.out j u hj;simpa using this) ?_)|(refine yJ rfl 165 rfl _ (Tryz.zeroValue165 _) ?_;intro W2 hk2 hb2 hz2)|(refine yX rfl (.tmp 5) (.tmp 12) 165 rfl wr.heap.size 0 rfl #[.int .i64 0,.int .i64 0,.int .i64 0] 165 hk2 _ rfl #[.int .i64 xa,.int .i64 xb,.int .i64 xc] rfl (Tryz.sizeOf165 _) (Nat.le_of_ble_eq_true rfl) (zm rfl) ?_;intro W3 hk3 hb3 hz3 hg3;have g0:W3.cell? ⟨wr.heap.size,0,none⟩=some (.int .i64 xa):=hk3.rules.1 0;have g1:W3.cell? ⟨wr.heap.size,1,none⟩=some (.int .i64 xb):=hk3.rules.1 1;have g2:W3.cell? ⟨w.heap.size,0,none⟩=some (.int .i64 n):=((HKW.out.below hb2).belowN hb3 (by omega)).rules.1 0))
    go_ret
    exact⟨⟨_,rfl⟩,HB1.out.trans ((hB.out.trans ((hb2.mono hsz).trans (hb3.mono hsz))).mono (by omega))⟩
   ·have d0:decide (xa<q)=false:=decide_eq_false hc0
    by_cases hc1:xb<1
    ·have d1:decide (xb<1)=true:=decide_eq_true hc1
     go_wp2_with(first|((with_reducible refine zp ?_);first|go_big_skip|refine zg rfl rfl rfl (by with_reducible rfl) ?_)|(refine zZ rfl (.tmp 11) 165 rfl b _ 3 rfl #[.int .i64 xa,.int .i64 xb,.int .i64 xc] (Tryz.isAgg165 _) (Tryz.sizeOf165 _) rfl (fun j u hj=>by have:=HC.out j u hj;simpa using this) ?_)|(refine yJ rfl 165 rfl _ (Tryz.zeroValue165 _) ?_;intro W2 hk2 hb2 hz2)|(refine yX rfl (.tmp 5) (.tmp 12) 165 rfl wr.heap.size 0 rfl #[.int .i64 0,.int .i64 0,.int .i64 0] 165 hk2 _ rfl #[.int .i64 xa,.int .i64 xb,.int .i64 xc] rfl (Tryz.sizeOf165 _) (Nat.le_of_ble_eq_true rfl) (zm rfl) ?_;intro W3 hk3 hb3 hz3 hg3;have g0:W3.cell? ⟨wr.heap.size,0,none⟩=some (.int .i64 xa):=hk3.rules.1 0;have g1:W3.cell? ⟨wr.heap.size,1,none⟩=some (.int .i64 xb):=hk3.rules.1 1;have g2:W3.cell? ⟨w.heap.size,0,none⟩=some (.int .i64 n):=((HKW.out.below hb2).belowN hb3 (by omega)).rules.1 0))
     go_ret
     exact⟨⟨_,rfl⟩,HB1.out.trans ((hB.out.trans ((hb2.mono hsz).trans (hb3.mono hsz))).mono (by omega))⟩
    ·have d1:decide (xb<1)=false:=decide_eq_false hc1
     by_cases hc2:n<xb
     ·have d2:decide (n<xb)=true:=decide_eq_true hc2
      go_wp2_with(first|((with_reducible refine zp ?_);first|go_big_skip|refine zg rfl rfl rfl (by with_reducible rfl) ?_)|(refine zZ rfl (.tmp 11) 165 rfl b _ 3 rfl #[.int .i64 xa,.int .i64 xb,.int .i64 xc] (Tryz.isAgg165 _) (Tryz.sizeOf165 _) rfl (fun j u hj=>by have:=HC.out j u hj;simpa using this) ?_)|(refine yJ rfl 165 rfl _ (Tryz.zeroValue165 _) ?_;intro W2 hk2 hb2 hz2)|(refine yX rfl (.tmp 5) (.tmp 12) 165 rfl wr.heap.size 0 rfl #[.int .i64 0,.int .i64 0,.int .i64 0] 165 hk2 _ rfl #[.int .i64 xa,.int .i64 xb,.int .i64 xc] rfl (Tryz.sizeOf165 _) (Nat.le_of_ble_eq_true rfl) (zm rfl) ?_;intro W3 hk3 hb3 hz3 hg3;have g0:W3.cell? ⟨wr.heap.size,0,none⟩=some (.int .i64 xa):=hk3.rules.1 0;have g1:W3.cell? ⟨wr.heap.size,1,none⟩=some (.int .i64 xb):=hk3.rules.1 1;have g2:W3.cell? ⟨w.heap.size,0,none⟩=some (.int .i64 n):=((HKW.out.below hb2).belowN hb3 (by omega)).rules.1 0))
      go_ret
      exact⟨⟨_,rfl⟩,HB1.out.trans ((hB.out.trans ((hb2.mono hsz).trans (hb3.mono hsz))).mono (by omega))⟩
     ·have d2:decide (n<xb)=false:=decide_eq_false hc2
      by_cases hc3:wrap64 (n-xb)<xa
      ·have d3:decide (wrap64 (n-xb)<xa)=true:=decide_eq_true hc3
       go_wp2_with(first|((with_reducible refine zp ?_);first|refine zg rfl rfl rfl (by with_reducible rfl) ?_)|(refine zZ rfl (.tmp 11) 165 rfl b _ 3 rfl #[.int .i64 xa,.int .i64 xb,.int .i64 xc] (Tryz.isAgg165 _) (Tryz.sizeOf165 _) rfl (fun j u hj=>by have:=HC.out j u hj;simpa using this) ?_)|(refine yJ rfl 165 rfl _ (Tryz.zeroValue165 _) ?_;intro W2 hk2 hb2 hz2)|(refine yX rfl (.tmp 5) (.tmp 12) 165 rfl wr.heap.size 0 rfl #[.int .i64 0,.int .i64 0,.int .i64 0] 165 hk2 _ rfl #[.int .i64 xa,.int .i64 xb,.int .i64 xc] rfl (Tryz.sizeOf165 _) (Nat.le_of_ble_eq_true rfl) (zm rfl) ?_;intro W3 hk3 hb3 hz3 hg3;have g0:W3.cell? ⟨wr.heap.size,0,none⟩=some (.int .i64 xa):=hk3.rules.1 0;have g1:W3.cell? ⟨wr.heap.size,1,none⟩=some (.int .i64 xb):=hk3.rules.1 1;have g2:W3.cell? ⟨w.heap.size,0,none⟩=some (.int .i64 n):=((HKW.out.below hb2).belowN hb3 (by omega)).rules.1 0))
       go_ret
       exact⟨⟨_,rfl⟩,HB1.out.trans ((hB.out.trans ((hb2.mono hsz).trans (hb3.mono hsz))).mono (by omega))⟩
      ·have d3:decide (wrap64 (n-xb)<xa)=false:=decide_eq_false hc3
       go_wp2_with(first|((with_reducible refine zp ?_);first|refine zg rfl rfl rfl (by with_reducible rfl) ?_)|(refine zZ rfl (.tmp 11) 165 rfl b _ 3 rfl #[.int .i64 xa,.int .i64 xb,.int .i64 xc] (Tryz.isAgg165 _) (Tryz.sizeOf165 _) rfl (fun j u hj=>by have:=HC.out j u hj;simpa using this) ?_)|(refine yJ rfl 165 rfl _ (Tryz.zeroValue165 _) ?_;intro W2 hk2 hb2 hz2)|(refine yX rfl (.tmp 5) (.tmp 12) 165 rfl wr.heap.size 0 rfl #[.int .i64 0,.int .i64 0,.int .i64 0] 165 hk2 _ rfl #[.int .i64 xa,.int .i64 xb,.int .i64 xc] rfl (Tryz.sizeOf165 _) (Nat.le_of_ble_eq_true rfl) (zm rfl) ?_;intro W3 hk3 hb3 hz3 hg3;have g0:W3.cell? ⟨wr.heap.size,0,none⟩=some (.int .i64 xa):=hk3.rules.1 0;have g1:W3.cell? ⟨wr.heap.size,1,none⟩=some (.int .i64 xb):=hk3.rules.1 1;have g2:W3.cell? ⟨w.heap.size,0,none⟩=some (.int .i64 n):=((HKW.out.below hb2).belowN hb3 (by omega)).rules.1 0))
       go_roundw
       case rel=>exact⟨k+1,_,by omega,rfl,by go_num,zj (hB.out.trans ((hb2.mono hsz).trans (hb3.mono hsz)))⟩
       case measure=>simp[intOf];omega
  ·have g0:wr.cell? ⟨w.heap.size,0,none⟩=some (.int .i64 _):=(HK1.out.below hB.out).rules.1 0
   go_wp2_with fail
   go_ret
   exact⟨⟨_,rfl⟩,HB1.out.trans (hB.out.mono (by omega))⟩
theorem hdrop1_any(r:Array Value)(b:Nat)(x:Int)(w:World)(hr:Ty vv r)(hb:b<w.heap.size)(hc:w.cell? ⟨b,0,none⟩=some (.int .i64 x)):
  Calls Tryz.prog 162 (#[.agg r]++ #[.pointer (some ⟨b,0,none⟩)]) w fun e w'=>e= .returned (.bool (zQ r 2==x))/\Below w.heap.size w w':=by
 have e0:=xq hr 2 rfl;have hne:b≠w.heap.size:=by omega
 clear hr;go_enter Tryz.func162,Tryz.ntmps162;go_wp2_with(refine yf rfl 165 (.tmp 0) rfl _ rfl r rfl ?_;intro W1 hk1 hb1 hz1;obtain⟨c1,f1⟩:=hk1.rules;have g1:=(hb1.cell (p:=⟨b,0,none⟩) hb).trans hc)
 go_ret
 exact⟨rfl,hb1⟩
theorem isFn162:Zp Tryz.prog 162:=⟨_,Tryz.func162,by kernel_rfl,by kernel_rfl⟩
theorem without_any(v:Value)(l:List (Array Value))(p:Array Value->Bool)(fv:Value)(X:Nat->Prop)(w:World)(h:Sl 3 v l X w)(hs: ∀r∈l,r.size=3)(h1: ∀r∈l,yZ r)(hle:l.length<=10000000)(hp:Zv fv l p w.heap.size w):
  Calls Tryz.prog 161 #[v,fv] w (OwnR w.heap.size 165 3 (l.filter fun r=> !p r) w):=by
 have H:=Lib.hid h;have HS:=Lib.hid hs;have H1:=Lib.hid h1;obtain⟨F,caps,rfl,hfn,hF⟩:=hp;have HF:=Lib.hid hF;clear h hs h1 hF;go_enter Tryz.func161,Tryz.ntmps161;go_wp2_with fail;refine(qh v l X w H.out H1.out (by omega)).mono ?_;rintro e W2 ⟨v2,rfl,hown2,hb2⟩;have HB2:=Lib.hid hb2;have HO2:=Lib.hid hown2;have hz2:=hb2.size;clear hown2 hb2;go_wp2_with fail;refine(delSpan_any w.heap.size v2 l _ p W2 HO2.out HS.out H1.out hz2 ⟨F,caps,rfl,hfn,fun r hr W hW=>HF.out r hr W (HB2.out.trans hW)⟩).mono ?_;rintro e W3 ⟨v3,rfl,hown3,hb3⟩;go_wp2_with fail
 go_ret
 exact⟨v3,rfl,hown3,HB2.out.trans hb3⟩
def HeapR(n:Nat)(X:Nat->Prop)(w:World)(e:Ending)(w':World):Prop:=
 ∃(x:Int) (v:Value) (l:List (Array Value)),e= .returned (.agg #[.int .i64 x,v])/\Sl 3 v l X w' /\(∀r∈l,Ty vv r)/\l.length<=n/\ -9223372036854775808<=x/\x<=9223372036854775807/\Below w.heap.size w w'
theorem hdrop_any(n:Int)(v:Value)(l:List (Array Value))(x:Int)(X0:Nat->Prop)(w:World)(h:Sl 3 v l X0 w)(hl: ∀r∈l,Ty vv r)(hle:l.length<=10000000)(hX: ∀b,X0 b->b<w.heap.size)(h0: -9223372036854775808<=n)(h1:n<=9223372036854775807):
  Calls Tryz.prog 129 #[.agg #[.int .i64 n,v],.int .i64 x] w (HeapR l.length X0 w):=by
 obtain⟨A,c,rfl,_,_⟩:=h.len;have k:Hid (St (fun _=>False) X0 w [] (Sl 3 (.slice A l.length c) l) X0 w):=St.begin hX h (zb _ _ _);have HL:=Lib.hid hl;clear h hl;have HO:Hid (∀r∈l,yZ r):=fun r hr=>(HL.out r hr).one;have HS:Hid (∀r∈l,r.size=3):=fun r hr=>(HL.out r hr).size;go_enter Tryz.func129,Tryz.ntmps129;go_wp2_with(first|((with_reducible refine zz ?_);refine zl k rfl rfl .a2 (by rfl) ?_)|((with_reducible refine zI ?_);first|(refine yt k rfl rfl rfl ?_;clear k;intro b X W k)|(refine st_box_one k rfl rfl rfl rfl ?_;clear k;intro b X W k))|((with_reducible refine zf ?_);refine zG k rfl (T:=50) rfl (Tryz.zeroValue50 _) ?_;clear k;intro b X W k));have hbk:=k.out.blk (i:=1) rfl;have hbl:=hbk.lt;refine(without_any _ l (fun r=>zQ r 2==x) _ _ W k.out.fact HS.out HO.out hle ⟨162,#[.pointer (some ⟨_,0,none⟩)],rfl,isFn162,fun r hr W' hW=>hdrop1_any r _ x W' (HL.out r hr) (Nat.lt_of_lt_of_le hbl hW.size) ((hbk.below hW).rules.1 0)⟩).mono ?_;rintro e W1 ⟨v',rfl,hown,hb⟩;obtain⟨A',c',rfl,_⟩:=yb hown;have hfl: ∀q∈l.filter (fun r=> !(zQ r 2==x)),Ty vv q:=fun q hq=>HL.out q (List.mem_filter.1 hq).1;have HFL:=Lib.hid hfl;have hlen:(l.filter (fun r=> !(zQ r 2==x))).length<=l.length:=List.length_filter_le _ _;replace k:=zj ((k.out.call hb).add (H:=Sl 3 _ _) (zV hown (fun q hq=>(hfl q hq).size) k.out.lt) (zb _ _ _));clear hbk hbl hown hb hfl;generalize l.filter (fun r=> !(zQ r 2==x))=l' at k HFL hlen⊢;go_wp2_with(first|((with_reducible refine zz ?_);refine lda k rfl rfl .a2 (by rfl) ?_)|((with_reducible refine zx ?_);first|(refine so1 k rfl rfl rfl (by rfl) .a2 (by rfl) rfl ?_;clear k;intro W k)|(refine soa k rfl rfl rfl .a0 (by rfl) (by rfl) (zm rfl) ?_;clear k;intro W k)));exact bodyPost_ret (yj rfl _ rfl (zY k.out 0 rfl 50 (Tryz.isAgg50 _) (Tryz.sizeOf50 _) rfl)) rfl ⟨n,_,l',rfl,k.out.out.2,HFL.out,hlen,h0,h1,k.out.end⟩
theorem elMsg:ElT 243 70 2 24:=jI Tryz.underlying70 (by kernel_rfl)
theorem ZX{x:Array Value}(h:Ty gx x): ∃(a b c d e:Int),x= #[.int .i64 a,.int .i64 b,.int .i64 c,.int .i64 d,.int .i64 e]:=by
 obtain⟨a,h0,_⟩:=h.i64 0 rfl;obtain⟨b,h1,_⟩:=h.i64 1 rfl;obtain⟨c,h2,_⟩:=h.i64 2 rfl;obtain⟨d,h3,_⟩:=h.i64 3 rfl;obtain⟨e,h4,_⟩:=h.i64 4 rfl;have hs:x.size=5:=h.size;refine⟨a,b,c,d,e,Array.ext_getElem? fun i=> ?_⟩;rcases i with _|_|_|_|_|i
 ·exact h0
 ·exact h1
 ·exact h2
 ·exact h3
 ·exact h4
 ·rw[Array.getElem?_eq_none (by omega),Array.getElem?_eq_none (by simp)]
theorem msg_lit{x:Array Value}(h:Ty kMsg x): ∃(a:Int) (s:ByteArray),x= #[.int .u64 a,.string s]:=by
 obtain⟨a,h0,_⟩:=h.u64 0 rfl;obtain⟨s,h1,_⟩:=h.str 1 rfl;have hs:x.size=2:=h.size;refine⟨a,s,Array.ext_getElem? fun i=> ?_⟩;rcases i with _|_|i
 ·exact h0
 ·exact h1
 ·rw[Array.getElem?_eq_none (by omega),Array.getElem?_eq_none (by simp)]
theorem zmsg_ty:Ty kMsg #[.int .u64 0,.string ⟨#[]⟩]:=⟨⟨0,rfl,by decide,by decide⟩,⟨_,rfl,by decide⟩,trivial⟩
def PeekR(l:List (Array Value))(w:World)(e:Ending)(w':World):Prop:=
 ∃(m:Array Value) (b:Bool),e= .returned (.tuple #[.agg m,.bool b])/\Ty kMsg m/\b= !l.isEmpty/\Below w.heap.size w w'
theorem peek_any(C:Array Value)(v:Value)(l:List (Array Value))(x:Int)(X0:Nat->Prop)(w:World)(hC:Ty gx C)(h:Sl 2 v l X0 w)(hl: ∀r∈l,Ty kMsg r)(hle:l.length<=10000000)(hX: ∀b,X0 b->b<w.heap.size):
  Calls Tryz.prog 192 #[.agg C,.agg #[v,.int .i64 x]] w (PeekR l w):=by
 obtain⟨A,c,rfl,_,_⟩:=h.len;have k:Hid (St (fun _=>False) X0 w [] (Sl 2 (.slice A l.length c) l) X0 w):=St.begin hX h (zb _ _ _);obtain⟨c0,c1,c2,c3,c4,rfl⟩:=ZX hC;have HL:=Lib.hid hl;clear h hl hC;cases l with
 |nil=>
  simp only[List.length_nil] at k⊢;go_enter Tryz.func192,Tryz.ntmps192;go_wp2_with(first|((with_reducible refine zz ?_);refine zl k rfl rfl .a1 (by rfl) ?_)|((with_reducible refine zx ?_);refine soa k rfl rfl rfl .a0 (by rfl) (by rfl) (zm rfl) ?_;clear k;intro W k)|((with_reducible refine zI ?_);refine yt k rfl rfl rfl ?_;clear k;intro b X W k)|((with_reducible refine zf ?_);refine zG k rfl (T:=243) rfl (Tryz.zeroValue243 _) ?_;clear k;intro b X W k));exact bodyPost_ret (yh rfl _ rfl rfl (zY k.out 0 rfl 243 (Tryz.isAgg243 _) (Tryz.sizeOf243 _) rfl)) rfl ⟨_,false,rfl,zmsg_ty,rfl,k.out.end⟩
 |cons r l=>
  obtain⟨ma,ms,rfl⟩:=msg_lit (HL.out r (List.mem_cons_self ..));have hn1:(((l.length:Int)+1)==0)=false:=by rw[beq_eq_false_iff_ne];omega
  simp only[List.length_cons] at k hle⊢;obtain⟨b0,o0,rfl,_⟩:=k.out.fact.row (i:=0) rfl (by decide);go_enter Tryz.func192,Tryz.ntmps192;go_wp2_with(first|((with_reducible refine zz ?_);first|(refine xV rfl (T:=243) rfl k.out.fact (i:=0) rfl (by decide) rfl ⟨_,rfl,by simp⟩ (Tryz.isAgg243 _) (Tryz.sizeOf243 _) ?_)|(refine zl k rfl rfl .a1 (by rfl) ?_))|((with_reducible refine zx ?_);refine soa k rfl rfl rfl .a0 (by rfl) (by rfl) (zm rfl) ?_;clear k;intro W k)|((with_reducible refine zI ?_);refine yt k rfl rfl rfl ?_;clear k;intro b X W k)|((with_reducible refine zf ?_);refine zG k rfl (T:=243) rfl (Tryz.zeroValue243 _) ?_;clear k;intro b X W k));exact bodyPost_ret (yh rfl _ rfl rfl (zY k.out 0 rfl 243 (Tryz.isAgg243 _) (Tryz.sizeOf243 _) rfl)) rfl ⟨_,true,rfl,HL.out _ (List.mem_cons_self ..),rfl,k.out.end⟩
theorem sl_cap{size n c c':Nat}{A:Option Addr}{l:List (Array Value)}{X:Nat->Prop}{W:World}(h:Sl size (.slice A n c) l X W)(hn:n<=c')(hc:c'<=c):Sl size (.slice A n c') l X W:=by
 obtain⟨A',c0,e,hr,hs,hA⟩:=h;injection e with e1 e2 e3;subst e1 e2 e3;exact⟨A,c',rfl,⟨hr.1,hn,Nat.le_trans hc hr.2.2.1,fun h=>by have:=hr.2.2.2.1 h;omega,hr.2.2.2.2⟩,hs,hA⟩
def StayD(i n:Nat)(M X0:Nat->Prop)(w0:World)(bs:List (Nat×Array Value×TypeId))(G:(Nat->Prop)->World->Prop)(W:World):Prop:=
 ∃(D:Array Value) (b:Nat) (C:Array Value) (T:TypeId),D.size=n/\bs[i]? =some (b,C,T)/\Stay M X0 w0 (bs.set i (b,D,T)) G W
theorem StayD.cell{i n:Nat}{M X0:Nat->Prop}{w0 W:World}{bs:List (Nat×Array Value×TypeId)}{G:(Nat->Prop)->World->Prop}(h:StayD i n M X0 w0 bs G W)(j:Nat){b:Nat}{C:Array Value}{t:TypeId}(hne:i≠j)(hj:bs[j]? =some (b,C,t)): ∀q,W.cell? ⟨b,q,none⟩=C[q]? :=by
 obtain⟨D,b',C',T,_,_,h⟩:=h;exact h.cell j (by rw[List.getElem?_set_ne hne];exact hj)
theorem StayD.of{i n:Nat}{M X0 X:Nat->Prop}{w0 W:World}{bs bs':List (Nat×Array Value×TypeId)}{G:(Nat->Prop)->World->Prop}{b:Nat}{C D:Array Value}{T:TypeId}(hi:bs[i]? =some (b,C,T))(hn:D.size=n)(hb:bs'=bs.set i (b,D,T))(k:St M X0 w0 bs' G X W):StayD i n M X0 w0 bs G W:=
 ⟨D,b,C,T,hn,hi,X,hb▸k⟩
theorem xj{P:Program}{Q:Exit->Act->World->Prop}{M X0 X:Nat->Prop}{w0 w:World}{bs:List (Nat×Array Value×TypeId)}{G:(Nat->Prop)->World->Prop}{id:Nat}{l:List Oper}{a:Act}(k:Hid (St M X0 w0 bs G X w))(i m:Nat){b:Nat}{C:Array Value}{T:TypeId}(hi:bs[i]? =some (b,C,T))(hm':C.size=m)(s n:Nat)(hm:P.follows .mixedOrders=true)(hn:l.length=n)
  (h: ∀W,Hid (St M X0 w0 bs G X W)->qg P .any l.toArray (NoPanic Q) (StayD i m M X0 w0 bs G) s n (Array.replicate n false) a W):(Code.region id l.toArray true).wp P Q a w:=by
 refine wp_region_noPanic (wp_region_any hm (gX (S:=StayD i m M X0 w0 bs G) (s:=s) _ _ _ _ ?_));subst hn;have:=h _ k.out.drew;simpa using this
theorem Zx{P:Program}{w:World}{fn:Func}{p q t:Tmp}{ty tz:TypeId}{ad ae:Addr}{v u x:Value}(h:fn.results= #[.cell p ty,.cell q tz,.tmp t])(tmps:Array Value)(hp:tmps.getD p undef= .pointer (some ad))(hq:tmps.getD q undef= .pointer (some ae))(ht:tmps.getD t undef=x)(hl:(loadVar ty ad).run P w= .ok v w)(hm:(loadVar tz ae).run P w= .ok u w):
  (results fn tmps).run P w= .ok (.tuple #[v,u,x]) w:=by
 have hp':tmps[p]?.getD undef= .pointer (some ad):=by simpa using hp
 have hq':tmps[q]?.getD undef= .pointer (some ae):=by simpa using hq
 have ht':tmps[t]?.getD undef=x:=by simpa using ht
 simp[results,h,hp',hq',ht',asAddr,hl,hm]
def PTakeR(n:Nat)(X:Nat->Prop)(w:World)(e:Ending)(w':World):Prop:=
 ∃(v:Value) (l:List (Array Value)) (x:Int) (m:Array Value) (y:Int),e= .returned (.tuple #[.agg #[v,.int .i64 x],.agg m,.int .i64 y])/\Sl 2 v l X w' /\(∀r∈l,Ty kMsg r)/\l.length<=n/\ -9223372036854775808<=x/\x<=9223372036854775807/\Ty kMsg m/\(y=0\/y=7)/\Below w.heap.size w w'
theorem Zm(C:Array Value)(v:Value)(l:List (Array Value))(x:Int)(X0:Nat->Prop)(w:World)(hC:Ty gx C)(h:Sl 2 v l X0 w)(hl: ∀r∈l,Ty kMsg r)(hle:l.length<=10000000)(hX: ∀b,X0 b->b<w.heap.size)(h0: -9223372036854775808<=x)(h1:x<=9223372036854775807):
  Calls Tryz.prog 185 #[.agg C,.agg #[v,.int .i64 x]] w (PTakeR l.length X0 w):=by
 obtain⟨A,c,rfl,hlc,hcm⟩:=h.len;have hcap:c<=9223372036854775807:=hcm;clear hcm;have k:Hid (St (fun _=>False) X0 w [] (Sl 2 (.slice A l.length c) l) X0 w):=St.begin hX h (zb _ _ _);have HC:=Lib.hid hC;obtain⟨c0,c1,c2,c3,c4,rfl⟩:=ZX hC;have HL:=Lib.hid hl;clear h hl hC;go_enter Tryz.func185,Tryz.ntmps185;go_wp2_with(first|((with_reducible refine zz ?_);refine lda k rfl rfl (by repeat constructor) (by rfl) ?_)|((with_reducible refine zI ?_);refine yt k rfl rfl rfl ?_;clear k;intro b X W k)|((with_reducible refine zf ?_);first|(refine zG k rfl (T:=72) rfl (Tryz.zeroValue72 _) ?_;clear k;intro b X W k)|(refine zG k rfl (T:=243) rfl (Tryz.zeroValue243 _) ?_;clear k;intro b X W k)));refine(peek_any _ _ l x _ _ HC.out k.out.fact HL.out hle k.out.lt).mono ?_;rintro e W1 ⟨m,b1,rfl,hm,hb1,hb⟩;replace k:=zj (k.out.call hb);have HM:=Lib.hid hm;obtain⟨ma,ms,rfl⟩:=msg_lit hm;have HB1:=Lib.hid hb1;clear hb hm hb1;cases b1 with
 |false=>
  go_upto_region 3 with(first|((with_reducible refine zx ?_);refine soa k rfl rfl rfl .a0 (by rfl) (by rfl) (zm rfl) ?_;clear k;intro W k)|((with_reducible refine zf ?_);refine zG k rfl (T:=243) rfl (Tryz.zeroValue243 _) ?_;clear k;intro b X W k))
  replace k:Hid (St _ _ _ [(_,#[_,_],_),(_,#[_,_],_),(_,#[_,_],_),(_,#[_,_],_),(_,#[_,_,_,_,_],_)] _ _ _):=k;have HPer:=Lib.hid k.out.per;refine xj k 2 2 rfl rfl 3 5 (by kernel_rfl) rfl ?_;clear k;intro W k;refine zq [(0,some 17,[3]),(1,some 18,[3])] [?v1_0,?v1_1] 3 (by kernel_rfl) (.of rfl rfl rfl k.out) ?l1 ?h1;case l1=>
   intro w' hSw;have r0:=hSw.cell 3 (by decide) rfl;have r1:=hSw.cell 0 (by decide) rfl;refine zu rfl rfl (by rfl) ?_ ?_
   ·go_simp
    try(with_reducible rfl)
   try simp only[Act.put,tS,t0,t1]
   refine zu rfl rfl (by rfl) ?_ ?_
   ·go_simp
    try(with_reducible rfl)
   try simp only[Act.put,tS,t0,t1]
   trivial
  simp only[zw,zk,Act.put,tS,t0,t1];refine w1 2 2 (by kernel_rfl) rfl ?_;go_wp2_with((with_reducible refine zx ?_);refine soa k rfl rfl rfl .a2 (by rfl) (by rfl) (zm rfl) ?_;clear k;intro W k);refine zd (yz (.of rfl rfl rfl k.out)) ?_;refine w1 3 1 (by kernel_rfl) rfl ?_;go_wp2_with((with_reducible refine zx ?_);refine soa k rfl rfl rfl .a1 (by rfl) (by rfl) (zm rfl) ?_;clear k;intro W k);refine zd (zJ rfl) ?_;refine zU [(4,some 6,[])] [?v2_4] 0 (by kernel_rfl) (.inr (by kernel_rfl)) ?l2 ?h2;case l2=>
   intro w';refine zu rfl rfl (by rfl) ?_ ?_
   ·go_simp
    try(with_reducible rfl)
   try simp only[Act.put,tS,t0,t1]
   trivial
  simp only[zw,zk,Act.put,tS,t0,t1];refine zv (by kernel_rfl) ?_ _;go_wp2_with fail;exact bodyPost_ret (Zx rfl _ rfl rfl rfl (zY k.out 2 rfl 72 (Tryz.isAgg72 _) (Tryz.sizeOf72 _) rfl) (zY k.out 1 rfl 243 (Tryz.isAgg243 _) (Tryz.sizeOf243 _) rfl)) rfl ⟨_,l,x,_,7,rfl,k.out.out,HL.out,Nat.le_refl _,h0,h1,HM.out,.inr rfl,k.out.end⟩
 |true=>
  by_cases hk:c0=1
  ·subst hk
   go_upto_region 6 with(first|((with_reducible refine zz ?_);refine zl k rfl rfl .a4 (by rfl) ?_)|((with_reducible refine zx ?_);refine soa k rfl rfl rfl .a0 (by rfl) (by rfl) (zm rfl) ?_;clear k;intro W k)|((with_reducible refine zf ?_);refine zG k rfl (T:=243) rfl (Tryz.zeroValue243 _) ?_;clear k;intro b X W k))
   replace k:Hid (St _ _ _ [(_,#[_,_],_),(_,#[_,_],_),(_,#[_,_],_),(_,#[_,_],_),(_,#[_,_,_,_,_],_)] _ _ _):=k;have HPer:=Lib.hid k.out.per;refine xj k 2 2 rfl rfl 3 5 (by kernel_rfl) rfl ?_;clear k;intro W k;refine zq [(0,some 32,[3]),(1,some 33,[3])] [?v3_0,?v3_1] 3 (by kernel_rfl) (.of rfl rfl rfl k.out) ?l3 ?h3;case l3=>
    intro w' hSw;have r0:=hSw.cell 3 (by decide) rfl;have r1:=hSw.cell 0 (by decide) rfl;refine zu rfl rfl (by rfl) ?_ ?_
    ·go_simp
     try(with_reducible rfl)
    try simp only[Act.put,tS,t0,t1]
    refine zu rfl rfl (by rfl) ?_ ?_
    ·go_simp
     try(with_reducible rfl)
    try simp only[Act.put,tS,t0,t1]
    trivial
   simp only[zw,zk,Act.put,tS,t0,t1];refine w1 2 2 (by kernel_rfl) rfl ?_;go_wp2_with((with_reducible refine zx ?_);refine soa k rfl rfl rfl .a2 (by rfl) (by rfl) (zm rfl) ?_;clear k;intro W k);refine zd (yz (.of rfl rfl rfl k.out)) ?_;refine w1 3 1 (by kernel_rfl) rfl ?_;go_wp2_with((with_reducible refine zx ?_);refine soa k rfl rfl rfl .a1 (by rfl) (by rfl) (zm rfl) ?_;clear k;intro W k);refine zd (zJ rfl) ?_;refine zU [(4,some 6,[])] [?v4_4] 0 (by kernel_rfl) (.inr (by kernel_rfl)) ?l4 ?h4;case l4=>
    intro w';refine zu rfl rfl (by rfl) ?_ ?_
    ·go_simp
     try(with_reducible rfl)
    try simp only[Act.put,tS,t0,t1]
    trivial
   simp only[zw,zk,Act.put,tS,t0,t1];refine zv (by kernel_rfl) ?_ _;go_wp2_with fail;exact bodyPost_ret (Zx rfl _ rfl rfl rfl (zY k.out 2 rfl 72 (Tryz.isAgg72 _) (Tryz.sizeOf72 _) rfl) (zY k.out 1 rfl 243 (Tryz.isAgg243 _) (Tryz.sizeOf243 _) rfl)) rfl ⟨_,l,x,_,0,rfl,k.out.out,HL.out,Nat.le_refl _,h0,h1,HM.out,.inl rfl,k.out.end⟩
  ·have hne:(c0==1)=false:=by rw[beq_eq_false_iff_ne];exact hk
   cases l with
   |nil=>exact absurd HB1.out (by decide)
   |cons r l=>
    obtain⟨b0,o0,rfl,_⟩:=k.out.fact.row (i:=0) rfl (by decide);simp only[List.length_cons] at k hle hlc⊢;cases l with
    |nil=>
     have hc1:(1:Int)<=(c:Int):=by simp at hlc;omega
     go_upto_region 6 with(first|((with_reducible refine zz ?_);refine zl k rfl rfl (by repeat constructor) (by rfl) ?_)|((with_reducible refine zx ?_);first|(refine so1 k rfl rfl rfl (by rfl) .a3 (by rfl) rfl ?_;clear k;intro W k)|(refine soa k rfl rfl rfl .a0 (by rfl) (by rfl) (zm rfl) ?_;clear k;intro W k))|((with_reducible refine zf ?_);refine zG k rfl (T:=243) rfl (Tryz.zeroValue243 _) ?_;clear k;intro b X W k))
     replace k:Hid (St _ _ _ [(_,#[_,_],_),(_,#[_,_],_),(_,#[_,_],_),(_,#[.slice (some ⟨b0,o0,none⟩) 0 0,_],_),(_,#[_,_,_,_,_],_)] _ _ _):=k;have HPer:=Lib.hid k.out.per;refine xj k 2 2 rfl rfl 3 5 (by kernel_rfl) rfl ?_;clear k;intro W k;refine zq [(0,some 32,[3]),(1,some 33,[3])] [?v5_0,?v5_1] 3 (by kernel_rfl) (.of rfl rfl rfl k.out) ?l5 ?h5;case l5=>
      intro w' hSw;have r0:=hSw.cell 3 (by decide) rfl;have r1:=hSw.cell 0 (by decide) rfl;refine zu rfl rfl (by rfl) ?_ ?_
      ·go_simp
       try(with_reducible rfl)
      try simp only[Act.put,tS,t0,t1]
      refine zu rfl rfl (by rfl) ?_ ?_
      ·go_simp
       try(with_reducible rfl)
      try simp only[Act.put,tS,t0,t1]
      trivial
     simp only[zw,zk,Act.put,tS,t0,t1];refine w1 2 2 (by kernel_rfl) rfl ?_;go_wp2_with((with_reducible refine zx ?_);refine soa k rfl rfl rfl .a2 (by rfl) (by rfl) (zm rfl) ?_;clear k;intro W k);refine zd (yz (.of rfl rfl rfl k.out)) ?_;refine w1 3 1 (by kernel_rfl) rfl ?_;go_wp2_with((with_reducible refine zx ?_);refine soa k rfl rfl rfl .a1 (by rfl) (by rfl) (zm rfl) ?_;clear k;intro W k);refine zd (zJ rfl) ?_;refine zU [(4,some 6,[])] [?v6_4] 0 (by kernel_rfl) (.inr (by kernel_rfl)) ?l6 ?h6;case l6=>
      intro w';refine zu rfl rfl (by rfl) ?_ ?_
      ·go_simp
       try(with_reducible rfl)
      try simp only[Act.put,tS,t0,t1]
      trivial
     simp only[zw,zk,Act.put,tS,t0,t1];refine zv (by kernel_rfl) ?_ _;go_wp2_with fail;exact bodyPost_ret (Zx rfl _ rfl rfl rfl (zY k.out 2 rfl 72 (Tryz.isAgg72 _) (Tryz.sizeOf72 _) rfl) (zY k.out 1 rfl 243 (Tryz.isAgg243 _) (Tryz.sizeOf243 _) rfl)) rfl ⟨_,[],x,_,0,rfl,sl_empty _ _ _ (Nat.zero_le _) _ _,fun r hr=>(by cases hr),Nat.zero_le _,h0,h1,HM.out,.inl rfl,k.out.end⟩
    |cons r2 l=>
     simp only[List.length_cons] at k hle hlc⊢;have hc1:(l.length:Int)+1+1<=(c:Int):=by omega
     have hc2:(1:Int)<=(l.length:Int)+1+1:=by omega
     have hc3:(0:Int)<=(l.length:Int)+1+1:=by omega
     go_upto_region 6 with(first|((with_reducible refine zz ?_);refine zl k rfl rfl (by repeat constructor) (by rfl) ?_)|((with_reducible refine zx ?_);first|(refine so1 k rfl rfl rfl (by rfl) .a3 (by rfl) rfl ?_;clear k;intro W k)|(refine soa k rfl rfl rfl .a0 (by rfl) (by rfl) (zm rfl) ?_;clear k;intro W k))|((with_reducible refine zf ?_);refine zG k rfl (T:=243) rfl (Tryz.zeroValue243 _) ?_;clear k;intro b X W k))
     replace k:Hid (St _ _ _ [(_,#[_,_],_),(_,#[_,_],_),(_,#[_,_],_),(_,#[.slice (some ⟨b0,o0+2,none⟩) (l.length+1) (l.length+1),_],_),(_,#[_,_,_,_,_],_)] _ _ _):=k;have HPer:=Lib.hid k.out.per;refine xj k 2 2 rfl rfl 3 5 (by kernel_rfl) rfl ?_;clear k;intro W k;refine zq [(0,some 32,[3]),(1,some 33,[3])] [?v7_0,?v7_1] 3 (by kernel_rfl) (.of rfl rfl rfl k.out) ?l7 ?h7;case l7=>
      intro w' hSw;have r0:=hSw.cell 3 (by decide) rfl;have r1:=hSw.cell 0 (by decide) rfl;refine zu rfl rfl (by rfl) ?_ ?_
      ·go_simp
       try(with_reducible rfl)
      try simp only[Act.put,tS,t0,t1]
      refine zu rfl rfl (by rfl) ?_ ?_
      ·go_simp
       try(with_reducible rfl)
      try simp only[Act.put,tS,t0,t1]
      trivial
     simp only[zw,zk,Act.put,tS,t0,t1];refine w1 2 2 (by kernel_rfl) rfl ?_;go_wp2_with((with_reducible refine zx ?_);refine soa k rfl rfl rfl .a2 (by rfl) (by rfl) (zm rfl) ?_;clear k;intro W k);refine zd (yz (.of rfl rfl rfl k.out)) ?_;refine w1 3 1 (by kernel_rfl) rfl ?_;go_wp2_with((with_reducible refine zx ?_);refine soa k rfl rfl rfl .a1 (by rfl) (by rfl) (zm rfl) ?_;clear k;intro W k);refine zd (zJ rfl) ?_;refine zU [(4,some 6,[])] [?v8_4] 0 (by kernel_rfl) (.inr (by kernel_rfl)) ?l8 ?h8;case l8=>
      intro w';refine zu rfl rfl (by rfl) ?_ ?_
      ·go_simp
       try(with_reducible rfl)
      try simp only[Act.put,tS,t0,t1]
      trivial
     simp only[zw,zk,Act.put,tS,t0,t1];refine zv (by kernel_rfl) ?_ _;go_wp2_with fail;have hfin:=sl_cap (k.out.out.from (i:=1) (by simp)) (c':=l.length+1) (by simp) (by have:=k.out.out.len;omega);exact bodyPost_ret (Zx rfl _ rfl rfl rfl (zY k.out 2 rfl 72 (Tryz.isAgg72 _) (Tryz.sizeOf72 _) rfl) (zY k.out 1 rfl 243 (Tryz.isAgg243 _) (Tryz.sizeOf243 _) rfl)) rfl ⟨_,r2::l,x,_,0,rfl,hfin,fun r hr=>HL.out r (List.mem_cons_of_mem _ hr),Nat.le_succ _,h0,h1,HM.out,.inl rfl,k.out.end⟩
def PSendR(n:Nat)(X:Nat->Prop)(w:World)(e:Ending)(w':World):Prop:=
 ∃(v:Value) (l:List (Array Value)) (x y:Int),e= .returned (.tuple #[.agg #[v,.int .i64 x],.int .i64 y])/\Sl 2 v l X w' /\(∀r∈l,Ty kMsg r)/\l.length<=n/\ -9223372036854775808<=x/\x<=9223372036854775807/\(y=0\/y=4)/\Below w.heap.size w w'
theorem psend_any(C:Array Value)(v:Value)(l:List (Array Value))(x tm:Int)(s:ByteArray)(X0:Nat->Prop)(w:World)(hC:Ty gx C)(h:Sl 2 v l X0 w)(hl: ∀r∈l,Ty kMsg r)(hle:l.length<=10000000)(hX: ∀b,X0 b->b<w.heap.size)(h0: -9223372036854775808<=x)(h1:x<=9223372036854775807)(ht0:0<=tm)(ht1:tm<18446744073709551616)(hs:s.size<=64)(n:Nat)(hn1:1<=n)(hn2:l.length<=n)(hn3:zQ C 4<=n):
  Calls Tryz.prog 97 #[.agg C,.agg #[v,.int .i64 x],.int .u64 tm,.string s] w (PSendR n X0 w):=by
 obtain⟨A,c,rfl,hlc,hcm⟩:=h.len;have hcap:c<=9223372036854775807:=hcm;clear hcm;have k:Hid (St (fun _=>False) X0 w [] (Sl 2 (.slice A l.length c) l) X0 w):=St.begin hX h (zb _ _ _);obtain⟨c0,c1,c2,c3,c4,rfl⟩:=ZX hC;have HL:=Lib.hid hl;have HM:Hid (Ty kMsg #[.int .u64 tm,.string s]):=⟨⟨tm,rfl,ht0,ht1⟩,⟨s,rfl,hs⟩,trivial⟩;clear h hl hC;have hn4:c4<=(n:Int):=hn3;clear hn3;have HM2: ∀q∈l++ [#[.int .u64 tm,.string s]],q.size=2:=xl (fun r hr=>(HL.out r hr).size) rfl;have HM3: ∀q∈([]:List (Array Value))++ [#[.int .u64 tm,.string s]],q.size=2:=xl (fun r hr=>by cases hr) rfl;by_cases hbig:c3<(s.size:Int)
 ·go_enter Tryz.func97,Tryz.ntmps97
  go_wp2_with(first|((with_reducible refine zz ?_);first|(refine zl k rfl rfl (by repeat constructor) (by rfl) ?_)|(refine lda k rfl rfl .a1 (by rfl) ?_))|((with_reducible refine zx ?_);refine soa k rfl rfl rfl .a0 (by rfl) (by rfl) (zm rfl) ?_;clear k;intro W k)|((with_reducible refine zI ?_);refine yt k rfl rfl rfl ?_;clear k;intro b X W k)|((with_reducible refine zf ?_);refine zG k rfl (T:=72) rfl (Tryz.zeroValue72 _) ?_;clear k;intro b X W k));exact bodyPost_ret (yh rfl _ rfl rfl (zY k.out 0 rfl 72 (Tryz.isAgg72 _) (Tryz.sizeOf72 _) rfl)) rfl ⟨_,l,x,4,rfl,k.out.out,HL.out,by omega,h0,h1,.inr rfl,k.out.end⟩
 ·by_cases hk:c0=1
  ·subst hk
   go_enter Tryz.func97,Tryz.ntmps97;go_wp2_with(first|((with_reducible refine zz ?_);first|(refine zl k rfl rfl (by repeat constructor) (by rfl) ?_)|(refine lda k rfl rfl .a2 (by rfl) ?_))|((with_reducible refine zx ?_);first|(refine so1 k rfl rfl rfl (by rfl) (by repeat constructor) (by rfl) rfl ?_;clear k;intro W k)|(refine soa k rfl rfl rfl .a1 (by rfl) (by rfl) (zm rfl) ?_;clear k;intro W k))|((with_reducible refine zI ?_);refine yt k rfl rfl rfl ?_;clear k;intro b X W k)|((with_reducible refine zf ?_);refine zG k rfl (T:=72) rfl (Tryz.zeroValue72 _) ?_;clear k;intro b X W k)|((with_reducible refine qY ?_);refine qp k elMsg rfl rfl rfl rfl rfl (by decide) (by decide) ?_;clear k;intro b X W k)|((with_reducible refine jZ ?_);refine jv elMsg (by decide) rfl (.tmp 37) (.tmp 41) rfl _ [] [#[.int .u64 tm,.string s]] X (fun _=>False) rfl (qz _ _ _) _ rfl (qU (k.out.blk (i:=0) rfl) rfl (Nat.le_refl 1) (by unfold maxLen;omega)) (by intro r hr;rw[List.mem_singleton.1 hr];exact zm rfl) (by simp) (by simp<;>omega) (by omega) ?_;intro v' W4 hown4 hb4;obtain⟨A',c',rfl,_⟩:=yb hown4;have hf:=zV hown4 (by intro q hq;first|exact HM2 q hq|exact HM3 q hq) k.out.lt;replace k:=zj ((k.out.call hb4).add hf (zb _ _ _));clear hown4 hb4 hf));exact bodyPost_ret (yh rfl _ rfl rfl (zY k.out 1 rfl 72 (Tryz.isAgg72 _) (Tryz.sizeOf72 _) rfl)) rfl ⟨_,_,x,0,rfl,k.out.out.2,(fun r hr=>by rw[List.mem_singleton.1 hr];exact HM.out),(by simp;omega),h0,h1,.inl rfl,k.out.end⟩
  ·have hne:(c0==1)=false:=by rw[beq_eq_false_iff_ne];exact hk
   by_cases hroom:(l.length:Int)<c4
   ·go_enter Tryz.func97,Tryz.ntmps97
    go_wp2_with(first|((with_reducible refine zz ?_);first|(refine zl k rfl rfl (by repeat constructor) (by rfl) ?_)|(refine lda k rfl rfl .a2 (by rfl) ?_))|((with_reducible refine zx ?_);first|(refine so1 k rfl rfl rfl (by rfl) .a2 (by rfl) rfl ?_;clear k;intro W k)|(refine soa k rfl rfl rfl .a1 (by rfl) (by rfl) (zm rfl) ?_;clear k;intro W k))|((with_reducible refine zI ?_);refine yt k rfl rfl rfl ?_;clear k;intro b X W k)|((with_reducible refine zf ?_);refine zG k rfl (T:=72) rfl (Tryz.zeroValue72 _) ?_;clear k;intro b X W k)|((with_reducible refine qY ?_);refine qp k elMsg rfl rfl rfl rfl rfl (by decide) (by decide) ?_;clear k;intro b X W k)|((with_reducible refine jZ ?_);refine jv elMsg (by decide) rfl (.tmp 37) (.tmp 41) rfl _ l [#[.int .u64 tm,.string s]] X (fun _=>False) rfl (sl_cap k.out.fact (Nat.le_refl _) hlc) _ rfl (qU (k.out.blk (i:=0) rfl) rfl (Nat.le_refl 1) (by unfold maxLen;omega)) (by intro r hr;rw[List.mem_singleton.1 hr];exact zm rfl) (by simp) (by simp<;>omega) (by omega) ?_;intro v' W4 hown4 hb4;obtain⟨A',c',rfl,_⟩:=yb hown4;have hf:=zV hown4 (by intro q hq;first|exact HM2 q hq|exact HM3 q hq) k.out.lt;replace k:=zj ((k.out.call hb4).add hf (zb _ _ _));clear hown4 hb4 hf));have hz:=k.out.out.2;simp only[List.length_append,List.length_cons,List.length_nil,Nat.zero_add] at hz;exact bodyPost_ret (yh rfl _ rfl rfl (zY k.out 1 rfl 72 (Tryz.isAgg72 _) (Tryz.sizeOf72 _) rfl)) rfl ⟨_,_,x,0,rfl,hz,xl HL.out HM.out,(by simp;omega),h0,h1,.inl rfl,k.out.end⟩
   ·go_enter Tryz.func97,Tryz.ntmps97
    go_wp2_with(first|((with_reducible refine zz ?_);first|(refine zl k rfl rfl (by repeat constructor) (by rfl) ?_)|(refine lda k rfl rfl .a1 (by rfl) ?_))|((with_reducible refine zx ?_);first|(refine so1 k rfl rfl rfl (by rfl) .a1 (by rfl) rfl ?_;clear k;intro W k)|(refine soa k rfl rfl rfl .a0 (by rfl) (by rfl) (zm rfl) ?_;clear k;intro W k))|((with_reducible refine zI ?_);refine yt k rfl rfl rfl ?_;clear k;intro b X W k)|((with_reducible refine zf ?_);refine zG k rfl (T:=72) rfl (Tryz.zeroValue72 _) ?_;clear k;intro b X W k));exact bodyPost_ret (yh rfl _ rfl rfl (zY k.out 0 rfl 72 (Tryz.isAgg72 _) (Tryz.sizeOf72 _) rfl)) rfl ⟨_,l,_,0,rfl,k.out.out,HL.out,by omega,(gZ _).1,(gZ _).2,.inl rfl,k.out.end⟩
def Next1(K:Act->World->Prop):Exit->Act->World->Prop
 | .normal,a,w=>K a w
 |_,_,_=>False
theorem wpListIn_one{ro:Option Nat}{n:Nat}{P:Program}{ops:Array Oper}{rest:List Oper}{o:Oper}{a:Act}{w:World}{Q:Exit->Act->World->Prop}(hgd:o.guard=none)(hd: ∀c,o.op≠ .defer c)
  (h:wpList P ops (Next1 fun a' w'=>wpListIn {Fence.wide with round:=ro} n P ops Q rest a' w') [o] a w):wpListIn {Fence.wide with round:=ro} n P ops Q (o::rest) a w:=by
 refine wpListIn_plain hgd fun K hK=> ?_;refine⟨fun f _=>trivial,?_⟩;rw[Oper.semAt_eq _ _ _ hd];unfold wpList at h;have hw:Region.wanted o (yielded ops a.tmps)=true:=by simp[Region.wanted,hgd]
 rw[if_pos hw] at h;rcases h with h|⟨_,a',w',h⟩
 ·unfold Oper.wp at h
  generalize hres:(execOp a.eval o).run P w=res at h⊢;cases res with
  |ok nx w'=>
   cases nx with
   |value v=>exact hK _ _ h
   |skip=>exact hK _ _ h
   |defer d=>exact hK _ _ h
   |enter f args=>
    refine⟨fun hx=>by simp[Fence.wide] at hx,?_⟩;have h2:Calls P f args w' _:=h;refine(show CallsIn {Fence.wide with round:=ro} (n-1) P f args w' _ from(callsIn_wide (n:=n-1)).2 h2).mono ?_;intro e w3 he;cases e with
    |returned v=>exact hK _ _ he
    |panicked c=>exact he.elim
    |outgrown=>obtain⟨_,_,hx⟩:=he;exact hx.elim
   |row r args=>
    refine⟨fun hx=>by simp[Fence.wide] at hx,fun c cs _=> ?_⟩;have h2:Rows P r args w' _:=h;obtain⟨v,w3,h3,h4⟩:=h2 c cs;exact⟨v,w3,hK _ _ h3,stepsIn_wide.2 h4⟩
   |_=>exact h.elim
  |halt x w'=>
   cases x with
   |panic v=>exact h.elim
   |_=>exact h.elim
 ·exact h.elim
theorem jz{n:Nat}{P:Program}{ops:Array Oper}{rest:List Oper}{o:Oper}{a:Act}{w:World}{Q:Exit->Act->World->Prop}(hgd:o.guard=none)(hd: ∀c,o.op≠ .defer c)
  (h:wpList P ops (Next1 fun a' w'=>wpListIn Fence.wide n P ops Q rest a' w') [o] a w):wpListIn Fence.wide n P ops Q (o::rest) a w:=wpListIn_one (ro:=none) hgd hd h
theorem qQ{l n:Nat}{P:Program}{ops:Array Oper}{rest:List Oper}{o:Oper}{a:Act}{w:World}{Q:Exit->Act->World->Prop}(hgd:o.guard=none)(hd: ∀c,o.op≠ .defer c)
  (h:wpList P ops (Next1 fun a' w'=>wpListIn (Fence.wide.inRound l) n P ops Q rest a' w') [o] a w):wpListIn (Fence.wide.inRound l) n P ops Q (o::rest) a w:=wpListIn_one (ro:=some l) hgd hd h
theorem qZ{F:Fence}{n:Nat}{P:Program}{ops:Array Oper}{rest:List Oper}{a:Act}{w:World}{Q:Exit->Act->World->Prop}{d:Option Tmp}{op:Op}{ty:TypeId}{pos:String}{af:Array Edge}{j:Nat}{want:Bool}{o':Oper}{dj:Nat}{u:Value}
  (h1:ops.toList[j]? =some o') (h2:o'.dst=some dj) (h3:a.tmps.toList[dj]? =some u) (h4:u= .bool want)
  (h:wpListIn F n P ops Q (⟨d,op,ty,pos,af,none⟩::rest) a w):wpListIn F n P ops Q (⟨d,op,ty,pos,af,some (j,want)⟩::rest) a w:=by
 have e1:ops[j]? =some o':=by simpa using h1
 have e3:a.tmps[dj]? =some (.bool want):=by rw[<-h4];simpa using h3
 have hw:Region.wanted (⟨d,op,ty,pos,af,some (j,want)⟩:Oper) (yielded ops a.tmps)=true:=by simp[Region.wanted,yielded,e1,h2,e3]
 have hn:Region.wanted (⟨d,op,ty,pos,af,none⟩:Oper) (yielded ops a.tmps)=true:=rfl;unfold wpListIn at h⊢;rw[if_pos hw];rw[if_pos hn] at h;exact h
theorem skip_in{n:Nat}{ro:Option Nat}{P:Program}{ops:Array Oper}{rest:List Oper}{a:Act}{w:World}{Q:Exit->Act->World->Prop}{d:Option Tmp}{op:Op}{ty:TypeId}{pos:String}{af:Array Edge}{j:Nat}{want b:Bool}{o':Oper}{dj:Nat}{u:Value}
  (h1:ops.toList[j]? =some o') (h2:o'.dst=some dj) (h3:a.tmps.toList[dj]? =some u) (h4:u= .bool b) (h5:(b==want)=false)
  (h:wpListIn {Fence.wide with round:=ro} n P ops Q rest (a.put d undef) w):wpListIn {Fence.wide with round:=ro} n P ops Q (⟨d,op,ty,pos,af,some (j,want)⟩::rest) a w:=by
 have e1:ops[j]? =some o':=by simpa using h1
 have e3:a.tmps[dj]? =some (.bool b):=by rw[<-h4];simpa using h3
 have hw:Region.wanted (⟨d,op,ty,pos,af,some (j,want)⟩:Oper) (yielded ops a.tmps)=false:=by
  have:b≠want:=by simpa using h5
  simp[Region.wanted,yielded,e1,h2,e3,this]
 unfold wpListIn;rw[if_neg (by rw[hw];decide)];exact⟨fun f _=>trivial,h⟩
theorem skip_w{n:Nat}{P:Program}{ops:Array Oper}{rest:List Oper}{a:Act}{w:World}{Q:Exit->Act->World->Prop}{d:Option Tmp}{op:Op}{ty:TypeId}{pos:String}{af:Array Edge}{j:Nat}{want b:Bool}{o':Oper}{dj:Nat}{u:Value}
  (h1:ops.toList[j]? =some o') (h2:o'.dst=some dj) (h3:a.tmps.toList[dj]? =some u) (h4:u= .bool b) (h5:(b==want)=false)
  (h:wpListIn Fence.wide n P ops Q rest (a.put d undef) w):wpListIn Fence.wide n P ops Q (⟨d,op,ty,pos,af,some (j,want)⟩::rest) a w:=skip_in (ro:=none) h1 h2 h3 h4 h5 h
theorem yp{P:Program}{ops:Array Oper}{K:Act->World->Prop}{a:Act}{w:World}(h:K a w):wpList P ops (Next1 K) [] a w:=h
end Go.Proofs.YtaccidkgnkmagaaGreatDoor.Top
