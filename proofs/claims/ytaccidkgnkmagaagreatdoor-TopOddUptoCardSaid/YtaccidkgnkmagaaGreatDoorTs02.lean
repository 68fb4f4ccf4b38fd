/-
  Walks and laws of the whole machine: Clone, Idx. Conditions: each theorem names its own.
-/
import Derived.Test.YtaccidkgnkmagaaGreatDoorTs01
import Derived.Lib.SliceRun
import Derived.Deep.QuietTactic
import Derived.BigQuiet
import Derived.LoopTactic
import Derived.Outline
set_option maxRecDepth 16000
set_option maxHeartbeats 12800000
set_option linter.unusedVariables false
set_option linter.unusedSimpArgs false
namespace Go.Proofs.YtaccidkgnkmagaaGreatDoor.Top
open Go.RowKit
theorem cloneSeat_any(v:Value)(l:List (Array Value))(X:Nat->Prop)(w:World)(h:Sl 19 v l X w)(h1: ∀r∈l,yZ r)(hle:l.length<=100000000):
  Calls Tryz.prog 41 #[v] w fun e w'=> ∃v',e= .returned v' /\w'.ownsRow w.heap.size 58 19 v' l.length (yy l)/\Below w.heap.size w w':=by
 obtain⟨A,c,rfl,hlc,hcm⟩:=h.len;unfold maxLen at hcm;cases A with
 |none=>
  have hl:l=[]:=by
   obtain⟨A',c',e1,hr,_⟩:=h;injection e1 with e1 e2 e3;have:=hr.2.2.2.1 e1.symm;exact List.eq_nil_of_length_eq_zero (by omega)
  subst hl;have hq:=fun w=>Lib.run_eql_slice_nil (P:=Tryz.prog) w 33 58 none ([]:List (Array Value)).length c 0 0 Tryz.underlying33;simp only[List.length_nil] at hq;go_enter Tryz.func41,Tryz.ntmps41;go_wp2_with fail
  go_ret
  exact⟨_,rfl,w.ownsRow_nil _ _ _,Below.refl _ _⟩
 |some b=>
  have H:=Lib.hid h;clear h;have hq:=fun w=>Lib.run_eql_slice_nil (P:=Tryz.prog) w 33 58 (some b) l.length c 0 0 Tryz.underlying33;go_enter Tryz.func41,Tryz.ntmps41;go_wp2_with(refine yO elSeat (by decide) rfl (.tmp 5) (.tmp 6) rfl w.heap.size _ [] rfl (World.ownsRow_made w #[] 0 (Nat.le_refl _) (by unfold maxLen;omega) (by simp)) X _ l rfl ((zb _ _ _).step H.out (Only.alloc w _)) h1 (by simp;omega) (by omega) (by simp) ?_;intro v' w' hown hb _ _ _)
  go_ret
  exact⟨v',rfl,hown,(xw w _).trans hb⟩
theorem cloneStr_any(v:Value)(l:List (Array Value))(X:Nat->Prop)(w:World)(h:Sl 1 v l X w)(h1: ∀r∈l,yZ r)(hle:l.length<=100000000):
  Calls Tryz.prog 49 #[v] w fun e w'=> ∃v',e= .returned v' /\w'.ownsRow w.heap.size 9 1 v' l.length (yy l)/\Below w.heap.size w w':=by
 obtain⟨A,c,rfl,hlc,hcm⟩:=h.len;unfold maxLen at hcm;cases A with
 |none=>
  have hl:l=[]:=by
   obtain⟨A',c',e1,hr,_⟩:=h;injection e1 with e1 e2 e3;have:=hr.2.2.2.1 e1.symm;exact List.eq_nil_of_length_eq_zero (by omega)
  subst hl;have hq:=fun w=>Lib.run_eql_slice_nil (P:=Tryz.prog) w 51 9 none ([]:List (Array Value)).length c 0 0 Tryz.underlying51;simp only[List.length_nil] at hq;go_enter Tryz.func49,Tryz.ntmps49;go_wp2_with fail
  go_ret
  exact⟨_,rfl,w.ownsRow_nil _ _ _,Below.refl _ _⟩
 |some b=>
  have H:=Lib.hid h;clear h;have hq:=fun w=>Lib.run_eql_slice_nil (P:=Tryz.prog) w 51 9 (some b) l.length c 0 0 Tryz.underlying51;go_enter Tryz.func49,Tryz.ntmps49;go_wp2_with(refine yO elStr (by decide) rfl (.tmp 5) (.tmp 6) rfl w.heap.size _ [] rfl (World.ownsRow_made w #[] 0 (Nat.le_refl _) (by unfold maxLen;omega) (by simp)) X _ l rfl ((zb _ _ _).step H.out (Only.alloc w _)) h1 (by simp;omega) (by omega) (by simp) ?_;intro v' w' hown hb _ _ _)
  go_ret
  exact⟨v',rfl,hown,(xw w _).trans hb⟩
theorem qO(v:Value)(l:List (Array Value))(X:Nat->Prop)(w:World)(h:Sl 5 v l X w)(h1: ∀r∈l,yZ r)(hle:l.length<=100000000):
  Calls Tryz.prog 50 #[v] w fun e w'=> ∃v',e= .returned v' /\w'.ownsRow w.heap.size 87 5 v' l.length (yy l)/\Below w.heap.size w w':=by
 obtain⟨A,c,rfl,hlc,hcm⟩:=h.len;unfold maxLen at hcm;cases A with
 |none=>
  have hl:l=[]:=by
   obtain⟨A',c',e1,hr,_⟩:=h;injection e1 with e1 e2 e3;have:=hr.2.2.2.1 e1.symm;exact List.eq_nil_of_length_eq_zero (by omega)
  subst hl;have hq:=fun w=>Lib.run_eql_slice_nil (P:=Tryz.prog) w 24 87 none ([]:List (Array Value)).length c 0 0 Tryz.underlying24;simp only[List.length_nil] at hq;go_enter Tryz.func50,Tryz.ntmps50;go_wp2_with fail
  go_ret
  exact⟨_,rfl,w.ownsRow_nil _ _ _,Below.refl _ _⟩
 |some b=>
  have H:=Lib.hid h;clear h;have hq:=fun w=>Lib.run_eql_slice_nil (P:=Tryz.prog) w 24 87 (some b) l.length c 0 0 Tryz.underlying24;go_enter Tryz.func50,Tryz.ntmps50;go_wp2_with(refine yO elChan (by decide) rfl (.tmp 5) (.tmp 6) rfl w.heap.size _ [] rfl (World.ownsRow_made w #[] 0 (Nat.le_refl _) (by unfold maxLen;omega) (by simp)) X _ l rfl ((zb _ _ _).step H.out (Only.alloc w _)) h1 (by simp;omega) (by omega) (by simp) ?_;intro v' w' hown hb _ _ _)
  go_ret
  exact⟨v',rfl,hown,(xw w _).trans hb⟩
theorem cloneStamps_any(v:Value)(l:List (Array Value))(X:Nat->Prop)(w:World)(h:Sl 1 v l X w)(h1: ∀r∈l,yZ r)(hle:l.length<=100000000):
  Calls Tryz.prog 72 #[v] w fun e w'=> ∃v',e= .returned v' /\w'.ownsRow w.heap.size 143 1 v' l.length (yy l)/\Below w.heap.size w w':=by
 obtain⟨A,c,rfl,hlc,hcm⟩:=h.len;unfold maxLen at hcm;cases A with
 |none=>
  have hl:l=[]:=by
   obtain⟨A',c',e1,hr,_⟩:=h;injection e1 with e1 e2 e3;have:=hr.2.2.2.1 e1.symm;exact List.eq_nil_of_length_eq_zero (by omega)
  subst hl;have hq:=fun w=>Lib.run_eql_slice_nil (P:=Tryz.prog) w 34 143 none ([]:List (Array Value)).length c 0 0 Tryz.underlying34;simp only[List.length_nil] at hq;go_enter Tryz.func72,Tryz.ntmps72;go_wp2_with fail
  go_ret
  exact⟨_,rfl,w.ownsRow_nil _ _ _,Below.refl _ _⟩
 |some b=>
  have H:=Lib.hid h;clear h;have hq:=fun w=>Lib.run_eql_slice_nil (P:=Tryz.prog) w 34 143 (some b) l.length c 0 0 Tryz.underlying34;go_enter Tryz.func72,Tryz.ntmps72;go_wp2_with(refine yO elStamps (by decide) rfl (.tmp 5) (.tmp 6) rfl w.heap.size _ [] rfl (World.ownsRow_made w #[] 0 (Nat.le_refl _) (by unfold maxLen;omega) (by simp)) X _ l rfl ((zb _ _ _).step H.out (Only.alloc w _)) h1 (by simp;omega) (by omega) (by simp) ?_;intro v' w' hown hb _ _ _)
  go_ret
  exact⟨v',rfl,hown,(xw w _).trans hb⟩
theorem qh(v:Value)(l:List (Array Value))(X:Nat->Prop)(w:World)(h:Sl 3 v l X w)(h1: ∀r∈l,yZ r)(hle:l.length<=100000000):
  Calls Tryz.prog 78 #[v] w fun e w'=> ∃v',e= .returned v' /\w'.ownsRow w.heap.size 165 3 v' l.length (yy l)/\Below w.heap.size w w':=by
 obtain⟨A,c,rfl,hlc,hcm⟩:=h.len;unfold maxLen at hcm;cases A with
 |none=>
  have hl:l=[]:=by
   obtain⟨A',c',e1,hr,_⟩:=h;injection e1 with e1 e2 e3;have:=hr.2.2.2.1 e1.symm;exact List.eq_nil_of_length_eq_zero (by omega)
  subst hl;have hq:=fun w=>Lib.run_eql_slice_nil (P:=Tryz.prog) w 48 165 none ([]:List (Array Value)).length c 0 0 Tryz.underlying48;simp only[List.length_nil] at hq;go_enter Tryz.func78,Tryz.ntmps78;go_wp2_with fail
  go_ret
  exact⟨_,rfl,w.ownsRow_nil _ _ _,Below.refl _ _⟩
 |some b=>
  have H:=Lib.hid h;clear h;have hq:=fun w=>Lib.run_eql_slice_nil (P:=Tryz.prog) w 48 165 (some b) l.length c 0 0 Tryz.underlying48;go_enter Tryz.func78,Tryz.ntmps78;go_wp2_with(refine yO jl (by decide) rfl (.tmp 5) (.tmp 6) rfl w.heap.size _ [] rfl (World.ownsRow_made w #[] 0 (Nat.le_refl _) (by unfold maxLen;omega) (by simp)) X _ l rfl ((zb _ _ _).step H.out (Only.alloc w _)) h1 (by simp;omega) (by omega) (by simp) ?_;intro v' w' hown hb _ _ _)
  go_ret
  exact⟨v',rfl,hown,(xw w _).trans hb⟩
theorem jf(v:Value)(l:List (Array Value))(X:Nat->Prop)(w:World)(h:Sl 3 v l X w)(h1: ∀r∈l,yZ r)(hle:l.length<=100000000):
  Calls Tryz.prog 79 #[v] w fun e w'=> ∃v',e= .returned v' /\w'.ownsRow w.heap.size 170 3 v' l.length (yy l)/\Below w.heap.size w w':=by
 obtain⟨A,c,rfl,hlc,hcm⟩:=h.len;unfold maxLen at hcm;cases A with
 |none=>
  have hl:l=[]:=by
   obtain⟨A',c',e1,hr,_⟩:=h;injection e1 with e1 e2 e3;have:=hr.2.2.2.1 e1.symm;exact List.eq_nil_of_length_eq_zero (by omega)
  subst hl;have hq:=fun w=>Lib.run_eql_slice_nil (P:=Tryz.prog) w 47 170 none ([]:List (Array Value)).length c 0 0 Tryz.underlying47;simp only[List.length_nil] at hq;go_enter Tryz.func79,Tryz.ntmps79;go_wp2_with fail
  go_ret
  exact⟨_,rfl,w.ownsRow_nil _ _ _,Below.refl _ _⟩
 |some b=>
  have H:=Lib.hid h;clear h;have hq:=fun w=>Lib.run_eql_slice_nil (P:=Tryz.prog) w 47 170 (some b) l.length c 0 0 Tryz.underlying47;go_enter Tryz.func79,Tryz.ntmps79;go_wp2_with(refine yO elPipe (by decide) rfl (.tmp 5) (.tmp 6) rfl w.heap.size _ [] rfl (World.ownsRow_made w #[] 0 (Nat.le_refl _) (by unfold maxLen;omega) (by simp)) X _ l rfl ((zb _ _ _).step H.out (Only.alloc w _)) h1 (by simp;omega) (by omega) (by simp) ?_;intro v' w' hown hb _ _ _)
  go_ret
  exact⟨v',rfl,hown,(xw w _).trans hb⟩
theorem Zg(v:Value)(l:List (Array Value))(X:Nat->Prop)(w:World)(h:Sl 26 v l X w)(h1: ∀r∈l,yZ r)(hle:l.length<=100000000):
  Calls Tryz.prog 80 #[v] w fun e w'=> ∃v',e= .returned v' /\w'.ownsRow w.heap.size 132 26 v' l.length (yy l)/\Below w.heap.size w w':=by
 obtain⟨A,c,rfl,hlc,hcm⟩:=h.len;unfold maxLen at hcm;cases A with
 |none=>
  have hl:l=[]:=by
   obtain⟨A',c',e1,hr,_⟩:=h;injection e1 with e1 e2 e3;have:=hr.2.2.2.1 e1.symm;exact List.eq_nil_of_length_eq_zero (by omega)
  subst hl;have hq:=fun w=>Lib.run_eql_slice_nil (P:=Tryz.prog) w 42 132 none ([]:List (Array Value)).length c 0 0 Tryz.underlying42;simp only[List.length_nil] at hq;go_enter Tryz.func80,Tryz.ntmps80;go_wp2_with fail
  go_ret
  exact⟨_,rfl,w.ownsRow_nil _ _ _,Below.refl _ _⟩
 |some b=>
  have H:=Lib.hid h;clear h;have hq:=fun w=>Lib.run_eql_slice_nil (P:=Tryz.prog) w 42 132 (some b) l.length c 0 0 Tryz.underlying42;go_enter Tryz.func80,Tryz.ntmps80;go_wp2_with(refine yO gG (by decide) rfl (.tmp 5) (.tmp 6) rfl w.heap.size _ [] rfl (World.ownsRow_made w #[] 0 (Nat.le_refl _) (by unfold maxLen;omega) (by simp)) X _ l rfl ((zb _ _ _).step H.out (Only.alloc w _)) h1 (by simp;omega) (by omega) (by simp) ?_;intro v' w' hown hb _ _ _)
  go_ret
  exact⟨v',rfl,hown,(xw w _).trans hb⟩
theorem cloneBox_any(v:Value)(l:List (Array Value))(X:Nat->Prop)(w:World)(h:Sl 2 v l X w)(h1: ∀r∈l,yZ r)(hle:l.length<=100000000):
  Calls Tryz.prog 98 #[v] w fun e w'=> ∃v',e= .returned v' /\w'.ownsRow w.heap.size 72 2 v' l.length (yy l)/\Below w.heap.size w w':=by
 obtain⟨A,c,rfl,hlc,hcm⟩:=h.len;unfold maxLen at hcm;cases A with
 |none=>
  have hl:l=[]:=by
   obtain⟨A',c',e1,hr,_⟩:=h;injection e1 with e1 e2 e3;have:=hr.2.2.2.1 e1.symm;exact List.eq_nil_of_length_eq_zero (by omega)
  subst hl;have hq:=fun w=>Lib.run_eql_slice_nil (P:=Tryz.prog) w 52 72 none ([]:List (Array Value)).length c 0 0 Tryz.underlying52;simp only[List.length_nil] at hq;go_enter Tryz.func98,Tryz.ntmps98;go_wp2_with fail
  go_ret
  exact⟨_,rfl,w.ownsRow_nil _ _ _,Below.refl _ _⟩
 |some b=>
  have H:=Lib.hid h;clear h;have hq:=fun w=>Lib.run_eql_slice_nil (P:=Tryz.prog) w 52 72 (some b) l.length c 0 0 Tryz.underlying52;go_enter Tryz.func98,Tryz.ntmps98;go_wp2_with(refine yO elBox (by decide) rfl (.tmp 5) (.tmp 6) rfl w.heap.size _ [] rfl (World.ownsRow_made w #[] 0 (Nat.le_refl _) (by unfold maxLen;omega) (by simp)) X _ l rfl ((zb _ _ _).step H.out (Only.alloc w _)) h1 (by simp;omega) (by omega) (by simp) ?_;intro v' w' hown hb _ _ _)
  go_ret
  exact⟨v',rfl,hown,(xw w _).trans hb⟩
theorem vy(v:Value)(l:List (Array Value))(X:Nat->Prop)(w:World)(h:Sl 2 v l X w)(h1: ∀r∈l,yZ r)(hle:l.length<=100000000):
  Calls Tryz.prog 160 #[v] w fun e w'=> ∃v',e= .returned v' /\w'.ownsRow w.heap.size 219 2 v' l.length (yy l)/\Below w.heap.size w w':=by
 obtain⟨A,c,rfl,hlc,hcm⟩:=h.len;unfold maxLen at hcm;cases A with
 |none=>
  have hl:l=[]:=by
   obtain⟨A',c',e1,hr,_⟩:=h;injection e1 with e1 e2 e3;have:=hr.2.2.2.1 e1.symm;exact List.eq_nil_of_length_eq_zero (by omega)
  subst hl;have hq:=fun w=>Lib.run_eql_slice_nil (P:=Tryz.prog) w 46 219 none ([]:List (Array Value)).length c 0 0 Tryz.underlying46;simp only[List.length_nil] at hq;go_enter Tryz.func160,Tryz.ntmps160;go_wp2_with fail
  go_ret
  exact⟨_,rfl,w.ownsRow_nil _ _ _,Below.refl _ _⟩
 |some b=>
  have H:=Lib.hid h;clear h;have hq:=fun w=>Lib.run_eql_slice_nil (P:=Tryz.prog) w 46 219 (some b) l.length c 0 0 Tryz.underlying46;go_enter Tryz.func160,Tryz.ntmps160;go_wp2_with(refine yO vg (by decide) rfl (.tmp 5) (.tmp 6) rfl w.heap.size _ [] rfl (World.ownsRow_made w #[] 0 (Nat.le_refl _) (by unfold maxLen;omega) (by simp)) X _ l rfl ((zb _ _ _).step H.out (Only.alloc w _)) h1 (by simp;omega) (by omega) (by simp) ?_;intro v' w' hown hb _ _ _)
  go_ret
  exact⟨v',rfl,hown,(xw w _).trans hb⟩
theorem cloneInt_any(v:Value)(l:List (Array Value))(X:Nat->Prop)(w:World)(h:Sl 1 v l X w)(h1: ∀r∈l,yZ r)(hle:l.length<=100000000):
  Calls Tryz.prog 165 #[v] w fun e w'=> ∃v',e= .returned v' /\w'.ownsRow w.heap.size 3 1 v' l.length (yy l)/\Below w.heap.size w w':=by
 obtain⟨A,c,rfl,hlc,hcm⟩:=h.len;unfold maxLen at hcm;cases A with
 |none=>
  have hl:l=[]:=by
   obtain⟨A',c',e1,hr,_⟩:=h;injection e1 with e1 e2 e3;have:=hr.2.2.2.1 e1.symm;exact List.eq_nil_of_length_eq_zero (by omega)
  subst hl;have hq:=fun w=>Lib.run_eql_slice_nil (P:=Tryz.prog) w 43 3 none ([]:List (Array Value)).length c 0 0 Tryz.underlying43;simp only[List.length_nil] at hq;go_enter Tryz.func165,Tryz.ntmps165;go_wp2_with fail
  go_ret
  exact⟨_,rfl,w.ownsRow_nil _ _ _,Below.refl _ _⟩
 |some b=>
  have H:=Lib.hid h;clear h;have hq:=fun w=>Lib.run_eql_slice_nil (P:=Tryz.prog) w 43 3 (some b) l.length c 0 0 Tryz.underlying43;go_enter Tryz.func165,Tryz.ntmps165;go_wp2_with(refine yO elInt (by decide) rfl (.tmp 5) (.tmp 6) rfl w.heap.size _ [] rfl (World.ownsRow_made w #[] 0 (Nat.le_refl _) (by unfold maxLen;omega) (by simp)) X _ l rfl ((zb _ _ _).step H.out (Only.alloc w _)) h1 (by simp;omega) (by omega) (by simp) ?_;intro v' w' hown hb _ _ _)
  go_ret
  exact⟨v',rfl,hown,(xw w _).trans hb⟩
def Zv(fv:Value)(l:List (Array Value))(p:Array Value->Bool)(base:Nat)(w:World):Prop:=
 ∃F caps,fv= .func (.func F) #[] caps/\Zp Tryz.prog F/\ ∀r∈l,∀W,Below base w W->Calls Tryz.prog F (#[.agg r]++caps) W fun e W'=>e= .returned (.bool (p r))/\Below W.heap.size W W'
def Pred1(fv:Value)(l:List (Array Value))(p:Array Value->Bool)(base:Nat)(w:World):Prop:=
 ∃F caps,fv= .func (.func F) #[] caps/\Zp Tryz.prog F/\ ∀r∈l,∀W,Below base w W->Calls Tryz.prog F (#[r.getD 0 undef]++caps) W fun e W'=>e= .returned (.bool (p r))/\Below W.heap.size W W'
def jx(p:Array Value->Bool)(l:List (Array Value)):Int:=match l.findIdx? p with|some i=>(i:Int)|none=> -1
theorem vd{p:Array Value->Bool}{l:List (Array Value)}{k:Nat}{r:Array Value}(h: ∀j r,j<k->l[j]? =some r->p r=false)(hr:l[k]? =some r)(hp:p r=true):jx p l=k:=by
 have:l.findIdx? p=some k:=by
  rw[List.findIdx?_eq_some_iff_getElem];obtain⟨hk,rfl⟩:=List.getElem?_eq_some_iff.1 hr;exact⟨hk,hp,fun j hj=>by have:=h j l[j] hj (List.getElem?_eq_getElem (by omega));simp[this]⟩
 simp[jx,this]
theorem vz{p:Array Value->Bool}{l:List (Array Value)}(h: ∀j r,j<l.length->l[j]? =some r->p r=false):jx p l= -1:=by
 have:l.findIdx? p=none:=by
  rw[List.findIdx?_eq_none_iff];intro x hx;obtain⟨j,hj,rfl⟩:=List.getElem_of_mem hx;exact h j _ hj (List.getElem?_eq_getElem hj)
 simp[jx,this]
theorem gq{p:Array Value->Bool}{l:List (Array Value)}{k:Nat}{r:Array Value}(h: ∀j r,j<k->l[j]? =some r->p r=false)(hr:l[k]? =some r)(hp:p r=false): ∀j r,j<k+1->l[j]? =some r->p r=false:=by
 intro j q hj hq;by_cases e:j=k
 ·subst e
  rw[hr] at hq;injection hq with hq;subst hq;exact hp
 ·exact h j q (by omega) hq
theorem one_row{r:Array Value}(h:r.size=1):r[0]? =some (r.getD 0 undef):=by
 have:0<r.size:=by omega
 simp[this]
theorem idxProc_any(v:Value)(l:List (Array Value))(fv:Value)(p:Array Value->Bool)(X:Nat->Prop)(w:World)(h:Sl 26 v l X w)(base:Nat)(hbase:base<=w.heap.size)(hp:Zv fv l p base w):
  Calls Tryz.prog 110 #[v,fv] w fun e w'=>e= .returned (.int .i64 (jx p l))/\Below w.heap.size w w':=by
 obtain⟨A,c,rfl,hlc,hcm⟩:=h.len;obtain⟨F,caps,rfl,hfn,hF⟩:=hp;have HN:=Lib.hid hfn;clear hfn;unfold maxLen at hcm;have hlm:l.length<=9223372036854775807:=Nat.le_trans hlc hcm;have HF:=Lib.hid hF;have H:=Lib.hid h;clear hF h;go_enter Tryz.func110,Tryz.ntmps110;go_wp2_with fail
 go_loopw [8] (fun i W=> ∃k:Nat,k<=l.length/\i= .int .i64 k/\Hid (∀j r,j<k->l[j]? =some r->p r=false)/\Hid (Below w.heap.size w W)) (fun i _=>l.length-(intOf i).toNat)
 case atStart=>exact⟨0,Nat.zero_le _,rfl,(fun j _ hj=>by omega),Below.refl _ _⟩
 case round=>
  obtain⟨k,hk,rfl,hno,hb⟩:=hrel;by_cases hlt:k<l.length
  ·obtain⟨r,hr⟩: ∃r,l[k]? =some r:=⟨l[k],List.getElem?_eq_getElem hlt⟩
   obtain⟨b,o,rfl,hbs,_,hrs,hc⟩:=H.out.row hr (by decide);have hcell: ∀j u,r[j]? =some u->wr.cell? ⟨b,o+k*26+j,none⟩=some u:=fun j u hj=>(hb.out.cell (p:=⟨b,o+k*26+j,none⟩) hbs).trans (hc j u hj);have HR:=Lib.hid hr;have hcall:=HF.out r (List.mem_of_getElem? hr) wr (hb.out.mono hbase);have HC:=Lib.hid hcall;clear hc hr hcall;cases hpr:p r with
   |true=>
    have HP:=Lib.hid hpr;rw[hpr] at HC;clear hpr;have hcf: ∀args w,(callFunc F args).run Tryz.prog w= .ok (.enter F args) w:=fun args w=>yk HN.out args;go_wp2_with(refine zZ rfl (.tmp 14) 132 rfl b _ 26 rfl r (Tryz.isAgg132 _) (Tryz.sizeOf132 _) hrs hcell ?_);refine HC.out.mono ?_;rintro e w1 ⟨rfl,hb1⟩;clear hcf;go_wp2_with fail
    go_ret
    exact⟨jb (vd hno.out HR.out HP.out).symm,hb.out.trans (hb1.mono hb.out.size)⟩
   |false=>
    have HP:=Lib.hid hpr;rw[hpr] at HC;clear hpr;have hcf: ∀args w,(callFunc F args).run Tryz.prog w= .ok (.enter F args) w:=fun args w=>yk HN.out args;go_wp2_with(refine zZ rfl (.tmp 14) 132 rfl b _ 26 rfl r (Tryz.isAgg132 _) (Tryz.sizeOf132 _) hrs hcell ?_);refine HC.out.mono ?_;rintro e w1 ⟨rfl,hb1⟩;clear hcf;go_wp2_with fail
    go_roundw
    case rel=>exact⟨k+1,by omega,by go_num,gq hno.out HR.out HP.out,hb.out.trans (hb1.mono hb.out.size)⟩
    case measure=>simp[intOf];omega
  ·obtain rfl:k=l.length:=by omega
   go_wp2_with fail
   go_ret
   exact⟨jb (vz hno.out).symm,hb.out⟩
theorem idxSpan_any(v:Value)(l:List (Array Value))(fv:Value)(p:Array Value->Bool)(X:Nat->Prop)(w:World)(h:Sl 3 v l X w)(base:Nat)(hbase:base<=w.heap.size)(hp:Zv fv l p base w):
  Calls Tryz.prog 194 #[v,fv] w fun e w'=>e= .returned (.int .i64 (jx p l))/\Below w.heap.size w w':=by
 obtain⟨A,c,rfl,hlc,hcm⟩:=h.len;obtain⟨F,caps,rfl,hfn,hF⟩:=hp;have HN:=Lib.hid hfn;clear hfn;unfold maxLen at hcm;have hlm:l.length<=9223372036854775807:=Nat.le_trans hlc hcm;have HF:=Lib.hid hF;have H:=Lib.hid h;clear hF h;go_enter Tryz.func194,Tryz.ntmps194;go_wp2_with fail
 go_loopw [8] (fun i W=> ∃k:Nat,k<=l.length/\i= .int .i64 k/\Hid (∀j r,j<k->l[j]? =some r->p r=false)/\Hid (Below w.heap.size w W)) (fun i _=>l.length-(intOf i).toNat)
 case atStart=>exact⟨0,Nat.zero_le _,rfl,(fun j _ hj=>by omega),Below.refl _ _⟩
 case round=>
  obtain⟨k,hk,rfl,hno,hb⟩:=hrel;by_cases hlt:k<l.length
  ·obtain⟨r,hr⟩: ∃r,l[k]? =some r:=⟨l[k],List.getElem?_eq_getElem hlt⟩
   obtain⟨b,o,rfl,hbs,_,hrs,hc⟩:=H.out.row hr (by decide);have hcell: ∀j u,r[j]? =some u->wr.cell? ⟨b,o+k*3+j,none⟩=some u:=fun j u hj=>(hb.out.cell (p:=⟨b,o+k*3+j,none⟩) hbs).trans (hc j u hj);have HR:=Lib.hid hr;have hcall:=HF.out r (List.mem_of_getElem? hr) wr (hb.out.mono hbase);have HC:=Lib.hid hcall;clear hc hr hcall;cases hpr:p r with
   |true=>
    have HP:=Lib.hid hpr;rw[hpr] at HC;clear hpr;have hcf: ∀args w,(callFunc F args).run Tryz.prog w= .ok (.enter F args) w:=fun args w=>yk HN.out args;go_wp2_with(refine zZ rfl (.tmp 14) 165 rfl b _ 3 rfl r (Tryz.isAgg165 _) (Tryz.sizeOf165 _) hrs hcell ?_);refine HC.out.mono ?_;rintro e w1 ⟨rfl,hb1⟩;clear hcf;go_wp2_with fail
    go_ret
    exact⟨jb (vd hno.out HR.out HP.out).symm,hb.out.trans (hb1.mono hb.out.size)⟩
   |false=>
    have HP:=Lib.hid hpr;rw[hpr] at HC;clear hpr;have hcf: ∀args w,(callFunc F args).run Tryz.prog w= .ok (.enter F args) w:=fun args w=>yk HN.out args;go_wp2_with(refine zZ rfl (.tmp 14) 165 rfl b _ 3 rfl r (Tryz.isAgg165 _) (Tryz.sizeOf165 _) hrs hcell ?_);refine HC.out.mono ?_;rintro e w1 ⟨rfl,hb1⟩;clear hcf;go_wp2_with fail
    go_roundw
    case rel=>exact⟨k+1,by omega,by go_num,gq hno.out HR.out HP.out,hb.out.trans (hb1.mono hb.out.size)⟩
    case measure=>simp[intOf];omega
  ·obtain rfl:k=l.length:=by omega
   go_wp2_with fail
   go_ret
   exact⟨jb (vz hno.out).symm,hb.out⟩
theorem idxAlarm_any(v:Value)(l:List (Array Value))(fv:Value)(p:Array Value->Bool)(X:Nat->Prop)(w:World)(h:Sl 2 v l X w)(base:Nat)(hbase:base<=w.heap.size)(hp:Zv fv l p base w):
  Calls Tryz.prog 156 #[v,fv] w fun e w'=>e= .returned (.int .i64 (jx p l))/\Below w.heap.size w w':=by
 obtain⟨A,c,rfl,hlc,hcm⟩:=h.len;obtain⟨F,caps,rfl,hfn,hF⟩:=hp;have HN:=Lib.hid hfn;clear hfn;unfold maxLen at hcm;have hlm:l.length<=9223372036854775807:=Nat.le_trans hlc hcm;have HF:=Lib.hid hF;have H:=Lib.hid h;clear hF h;go_enter Tryz.func156,Tryz.ntmps156;go_wp2_with fail
 go_loopw [8] (fun i W=> ∃k:Nat,k<=l.length/\i= .int .i64 k/\Hid (∀j r,j<k->l[j]? =some r->p r=false)/\Hid (Below w.heap.size w W)) (fun i _=>l.length-(intOf i).toNat)
 case atStart=>exact⟨0,Nat.zero_le _,rfl,(fun j _ hj=>by omega),Below.refl _ _⟩
 case round=>
  obtain⟨k,hk,rfl,hno,hb⟩:=hrel;by_cases hlt:k<l.length
  ·obtain⟨r,hr⟩: ∃r,l[k]? =some r:=⟨l[k],List.getElem?_eq_getElem hlt⟩
   obtain⟨b,o,rfl,hbs,_,hrs,hc⟩:=H.out.row hr (by decide);have hcell: ∀j u,r[j]? =some u->wr.cell? ⟨b,o+k*2+j,none⟩=some u:=fun j u hj=>(hb.out.cell (p:=⟨b,o+k*2+j,none⟩) hbs).trans (hc j u hj);have HR:=Lib.hid hr;have hcall:=HF.out r (List.mem_of_getElem? hr) wr (hb.out.mono hbase);have HC:=Lib.hid hcall;clear hc hr hcall;cases hpr:p r with
   |true=>
    have HP:=Lib.hid hpr;rw[hpr] at HC;clear hpr;have hcf: ∀args w,(callFunc F args).run Tryz.prog w= .ok (.enter F args) w:=fun args w=>yk HN.out args;go_wp2_with(refine zZ rfl (.tmp 14) 219 rfl b _ 2 rfl r (Tryz.isAgg219 _) (Tryz.sizeOf219 _) hrs hcell ?_);refine HC.out.mono ?_;rintro e w1 ⟨rfl,hb1⟩;clear hcf;go_wp2_with fail
    go_ret
    exact⟨jb (vd hno.out HR.out HP.out).symm,hb.out.trans (hb1.mono hb.out.size)⟩
   |false=>
    have HP:=Lib.hid hpr;rw[hpr] at HC;clear hpr;have hcf: ∀args w,(callFunc F args).run Tryz.prog w= .ok (.enter F args) w:=fun args w=>yk HN.out args;go_wp2_with(refine zZ rfl (.tmp 14) 219 rfl b _ 2 rfl r (Tryz.isAgg219 _) (Tryz.sizeOf219 _) hrs hcell ?_);refine HC.out.mono ?_;rintro e w1 ⟨rfl,hb1⟩;clear hcf;go_wp2_with fail
    go_roundw
    case rel=>exact⟨k+1,by omega,by go_num,gq hno.out HR.out HP.out,hb.out.trans (hb1.mono hb.out.size)⟩
    case measure=>simp[intOf];omega
  ·obtain rfl:k=l.length:=by omega
   go_wp2_with fail
   go_ret
   exact⟨jb (vz hno.out).symm,hb.out⟩
theorem idxInt_any(v:Value)(l:List (Array Value))(fv:Value)(p:Array Value->Bool)(X:Nat->Prop)(w:World)(h:Sl 1 v l X w)(base:Nat)(hbase:base<=w.heap.size)(hp:Pred1 fv l p base w):
  Calls Tryz.prog 62 #[v,fv] w fun e w'=>e= .returned (.int .i64 (jx p l))/\Below w.heap.size w w':=by
 obtain⟨A,c,rfl,hlc,hcm⟩:=h.len;obtain⟨F,caps,rfl,hfn,hF⟩:=hp;have HN:=Lib.hid hfn;clear hfn;unfold maxLen at hcm;have hlm:l.length<=9223372036854775807:=Nat.le_trans hlc hcm;have HF:=Lib.hid hF;have H:=Lib.hid h;clear hF h;go_enter Tryz.func62,Tryz.ntmps62;go_wp2_with fail
 go_loopw [8] (fun i W=> ∃k:Nat,k<=l.length/\i= .int .i64 k/\Hid (∀j r,j<k->l[j]? =some r->p r=false)/\Hid (Below w.heap.size w W)) (fun i _=>l.length-(intOf i).toNat)
 case atStart=>exact⟨0,Nat.zero_le _,rfl,(fun j _ hj=>by omega),Below.refl _ _⟩
 case round=>
  obtain⟨k,hk,rfl,hno,hb⟩:=hrel;by_cases hlt:k<l.length
  ·obtain⟨r,hr⟩: ∃r,l[k]? =some r:=⟨l[k],List.getElem?_eq_getElem hlt⟩
   obtain⟨b,o,rfl,hbs,_,hrs,hc⟩:=H.out.row hr (by decide);have hcell: ∀j u,r[j]? =some u->wr.cell? ⟨b,o+k*1+j,none⟩=some u:=fun j u hj=>(hb.out.cell (p:=⟨b,o+k*1+j,none⟩) hbs).trans (hc j u hj);have HR:=Lib.hid hr;have hcall:=HF.out r (List.mem_of_getElem? hr) wr (hb.out.mono hbase);have h0:=hcell 0 (r.getD 0 undef) (one_row hrs);simp only[Nat.mul_one,Nat.add_zero] at h0;generalize r.getD 0 undef=u0 at h0 hcall;have HC:=Lib.hid hcall;clear hc hcell hr hcall hrs;cases hpr:p r with
   |true=>
    have HP:=Lib.hid hpr;rw[hpr] at HC;clear hpr;have hcf: ∀args w,(callFunc F args).run Tryz.prog w= .ok (.enter F args) w:=fun args w=>yk HN.out args;go_wp2_with fail;refine HC.out.mono ?_;rintro e w1 ⟨rfl,hb1⟩;clear hcf;go_wp2_with fail
    go_ret
    exact⟨jb (vd hno.out HR.out HP.out).symm,hb.out.trans (hb1.mono hb.out.size)⟩
   |false=>
    have HP:=Lib.hid hpr;rw[hpr] at HC;clear hpr;have hcf: ∀args w,(callFunc F args).run Tryz.prog w= .ok (.enter F args) w:=fun args w=>yk HN.out args;go_wp2_with fail;refine HC.out.mono ?_;rintro e w1 ⟨rfl,hb1⟩;clear hcf;go_wp2_with fail
    go_roundw
    case rel=>exact⟨k+1,by omega,by go_num,gq hno.out HR.out HP.out,hb.out.trans (hb1.mono hb.out.size)⟩
    case measure=>simp[intOf];omega
  ·obtain rfl:k=l.length:=by omega
   go_wp2_with fail
   go_ret
   exact⟨jb (vz hno.out).symm,hb.out⟩
theorem idxWin_any(v:Value)(l:List (Array Value))(fv:Value)(p:Array Value->Bool)(X:Nat->Prop)(w:World)(h:Sl 1 v l X w)(base:Nat)(hbase:base<=w.heap.size)(hp:Pred1 fv l p base w):
  Calls Tryz.prog 44 #[v,fv] w fun e w'=>e= .returned (.int .i64 (jx p l))/\Below w.heap.size w w':=by
 obtain⟨A,c,rfl,hlc,hcm⟩:=h.len;obtain⟨F,caps,rfl,hfn,hF⟩:=hp;have HN:=Lib.hid hfn;clear hfn;unfold maxLen at hcm;have hlm:l.length<=9223372036854775807:=Nat.le_trans hlc hcm;have HF:=Lib.hid hF;have H:=Lib.hid h;clear hF h;go_enter Tryz.func44,Tryz.ntmps44;go_wp2_with fail
 go_loopw [8] (fun i W=> ∃k:Nat,k<=l.length/\i= .int .i64 k/\Hid (∀j r,j<k->l[j]? =some r->p r=false)/\Hid (Below w.heap.size w W)) (fun i _=>l.length-(intOf i).toNat)
 case atStart=>exact⟨0,Nat.zero_le _,rfl,(fun j _ hj=>by omega),Below.refl _ _⟩
 case round=>
  obtain⟨k,hk,rfl,hno,hb⟩:=hrel;by_cases hlt:k<l.length
  ·obtain⟨r,hr⟩: ∃r,l[k]? =some r:=⟨l[k],List.getElem?_eq_getElem hlt⟩
   obtain⟨b,o,rfl,hbs,_,hrs,hc⟩:=H.out.row hr (by decide);have hcell: ∀j u,r[j]? =some u->wr.cell? ⟨b,o+k*1+j,none⟩=some u:=fun j u hj=>(hb.out.cell (p:=⟨b,o+k*1+j,none⟩) hbs).trans (hc j u hj);have HR:=Lib.hid hr;have hcall:=HF.out r (List.mem_of_getElem? hr) wr (hb.out.mono hbase);have h0:=hcell 0 (r.getD 0 undef) (one_row hrs);simp only[Nat.mul_one,Nat.add_zero] at h0;generalize r.getD 0 undef=u0 at h0 hcall;have HC:=Lib.hid hcall;clear hc hcell hr hcall hrs;cases hpr:p r with
   |true=>
    have HP:=Lib.hid hpr;rw[hpr] at HC;clear hpr;have hcf: ∀args w,(callFunc F args).run Tryz.prog w= .ok (.enter F args) w:=fun args w=>yk HN.out args;go_wp2_with fail;refine HC.out.mono ?_;rintro e w1 ⟨rfl,hb1⟩;clear hcf;go_wp2_with fail
    go_ret
    exact⟨jb (vd hno.out HR.out HP.out).symm,hb.out.trans (hb1.mono hb.out.size)⟩
   |false=>
    have HP:=Lib.hid hpr;rw[hpr] at HC;clear hpr;have hcf: ∀args w,(callFunc F args).run Tryz.prog w= .ok (.enter F args) w:=fun args w=>yk HN.out args;go_wp2_with fail;refine HC.out.mono ?_;rintro e w1 ⟨rfl,hb1⟩;clear hcf;go_wp2_with fail
    go_roundw
    case rel=>exact⟨k+1,by omega,by go_num,gq hno.out HR.out HP.out,hb.out.trans (hb1.mono hb.out.size)⟩
    case measure=>simp[intOf];omega
  ·obtain rfl:k=l.length:=by omega
   go_wp2_with fail
   go_ret
   exact⟨jb (vz hno.out).symm,hb.out⟩
theorem idxPart_any(v:Value)(l:List (Array Value))(fv:Value)(p:Array Value->Bool)(X:Nat->Prop)(w:World)(h:Sl 4 v l X w)(base:Nat)(hbase:base<=w.heap.size)(hp:Zv fv l p base w):
  Calls Tryz.prog 45 #[v,fv] w fun e w'=>e= .returned (.int .i64 (jx p l))/\Below w.heap.size w w':=by
 obtain⟨A,c,rfl,hlc,hcm⟩:=h.len;obtain⟨F,caps,rfl,hfn,hF⟩:=hp;have HN:=Lib.hid hfn;clear hfn;unfold maxLen at hcm;have hlm:l.length<=9223372036854775807:=Nat.le_trans hlc hcm;have HF:=Lib.hid hF;have H:=Lib.hid h;clear hF h;go_enter Tryz.func45,Tryz.ntmps45;go_wp2_with fail
 go_loopw [8] (fun i W=> ∃k:Nat,k<=l.length/\i= .int .i64 k/\Hid (∀j r,j<k->l[j]? =some r->p r=false)/\Hid (Below w.heap.size w W)) (fun i _=>l.length-(intOf i).toNat)
 case atStart=>exact⟨0,Nat.zero_le _,rfl,(fun j _ hj=>by omega),Below.refl _ _⟩
 case round=>
  obtain⟨k,hk,rfl,hno,hb⟩:=hrel;by_cases hlt:k<l.length
  ·obtain⟨r,hr⟩: ∃r,l[k]? =some r:=⟨l[k],List.getElem?_eq_getElem hlt⟩
   obtain⟨b,o,rfl,hbs,_,hrs,hc⟩:=H.out.row hr (by decide);have hcell: ∀j u,r[j]? =some u->wr.cell? ⟨b,o+k*4+j,none⟩=some u:=fun j u hj=>(hb.out.cell (p:=⟨b,o+k*4+j,none⟩) hbs).trans (hc j u hj);have HR:=Lib.hid hr;have hcall:=HF.out r (List.mem_of_getElem? hr) wr (hb.out.mono hbase);have HC:=Lib.hid hcall;clear hc hr hcall;cases hpr:p r with
   |true=>
    have HP:=Lib.hid hpr;rw[hpr] at HC;clear hpr;have hcf: ∀args w,(callFunc F args).run Tryz.prog w= .ok (.enter F args) w:=fun args w=>yk HN.out args;go_wp2_with(refine zZ rfl (.tmp 14) 76 rfl b _ 4 rfl r (Tryz.isAgg76 _) (Tryz.sizeOf76 _) hrs hcell ?_);refine HC.out.mono ?_;rintro e w1 ⟨rfl,hb1⟩;clear hcf;go_wp2_with fail
    go_ret
    exact⟨jb (vd hno.out HR.out HP.out).symm,hb.out.trans (hb1.mono hb.out.size)⟩
   |false=>
    have HP:=Lib.hid hpr;rw[hpr] at HC;clear hpr;have hcf: ∀args w,(callFunc F args).run Tryz.prog w= .ok (.enter F args) w:=fun args w=>yk HN.out args;go_wp2_with(refine zZ rfl (.tmp 14) 76 rfl b _ 4 rfl r (Tryz.isAgg76 _) (Tryz.sizeOf76 _) hrs hcell ?_);refine HC.out.mono ?_;rintro e w1 ⟨rfl,hb1⟩;clear hcf;go_wp2_with fail
    go_roundw
    case rel=>exact⟨k+1,by omega,by go_num,gq hno.out HR.out HP.out,hb.out.trans (hb1.mono hb.out.size)⟩
    case measure=>simp[intOf];omega
  ·obtain rfl:k=l.length:=by omega
   go_wp2_with fail
   go_ret
   exact⟨jb (vz hno.out).symm,hb.out⟩
theorem idxChan_any(v:Value)(l:List (Array Value))(fv:Value)(p:Array Value->Bool)(X:Nat->Prop)(w:World)(h:Sl 5 v l X w)(base:Nat)(hbase:base<=w.heap.size)(hp:Zv fv l p base w):
  Calls Tryz.prog 48 #[v,fv] w fun e w'=>e= .returned (.int .i64 (jx p l))/\Below w.heap.size w w':=by
 obtain⟨A,c,rfl,hlc,hcm⟩:=h.len;obtain⟨F,caps,rfl,hfn,hF⟩:=hp;have HN:=Lib.hid hfn;clear hfn;unfold maxLen at hcm;have hlm:l.length<=9223372036854775807:=Nat.le_trans hlc hcm;have HF:=Lib.hid hF;have H:=Lib.hid h;clear hF h;go_enter Tryz.func48,Tryz.ntmps48;go_wp2_with fail
 go_loopw [8] (fun i W=> ∃k:Nat,k<=l.length/\i= .int .i64 k/\Hid (∀j r,j<k->l[j]? =some r->p r=false)/\Hid (Below w.heap.size w W)) (fun i _=>l.length-(intOf i).toNat)
 case atStart=>exact⟨0,Nat.zero_le _,rfl,(fun j _ hj=>by omega),Below.refl _ _⟩
 case round=>
  obtain⟨k,hk,rfl,hno,hb⟩:=hrel;by_cases hlt:k<l.length
  ·obtain⟨r,hr⟩: ∃r,l[k]? =some r:=⟨l[k],List.getElem?_eq_getElem hlt⟩
   obtain⟨b,o,rfl,hbs,_,hrs,hc⟩:=H.out.row hr (by decide);have hcell: ∀j u,r[j]? =some u->wr.cell? ⟨b,o+k*5+j,none⟩=some u:=fun j u hj=>(hb.out.cell (p:=⟨b,o+k*5+j,none⟩) hbs).trans (hc j u hj);have HR:=Lib.hid hr;have hcall:=HF.out r (List.mem_of_getElem? hr) wr (hb.out.mono hbase);have HC:=Lib.hid hcall;clear hc hr hcall;cases hpr:p r with
   |true=>
    have HP:=Lib.hid hpr;rw[hpr] at HC;clear hpr;have hcf: ∀args w,(callFunc F args).run Tryz.prog w= .ok (.enter F args) w:=fun args w=>yk HN.out args;go_wp2_with(refine zZ rfl (.tmp 14) 87 rfl b _ 5 rfl r (Tryz.isAgg87 _) (Tryz.sizeOf87 _) hrs hcell ?_);refine HC.out.mono ?_;rintro e w1 ⟨rfl,hb1⟩;clear hcf;go_wp2_with fail
    go_ret
    exact⟨jb (vd hno.out HR.out HP.out).symm,hb.out.trans (hb1.mono hb.out.size)⟩
   |false=>
    have HP:=Lib.hid hpr;rw[hpr] at HC;clear hpr;have hcf: ∀args w,(callFunc F args).run Tryz.prog w= .ok (.enter F args) w:=fun args w=>yk HN.out args;go_wp2_with(refine zZ rfl (.tmp 14) 87 rfl b _ 5 rfl r (Tryz.isAgg87 _) (Tryz.sizeOf87 _) hrs hcell ?_);refine HC.out.mono ?_;rintro e w1 ⟨rfl,hb1⟩;clear hcf;go_wp2_with fail
    go_roundw
    case rel=>exact⟨k+1,by omega,by go_num,gq hno.out HR.out HP.out,hb.out.trans (hb1.mono hb.out.size)⟩
    case measure=>simp[intOf];omega
  ·obtain rfl:k=l.length:=by omega
   go_wp2_with fail
   go_ret
   exact⟨jb (vz hno.out).symm,hb.out⟩
theorem idxPipe_any(v:Value)(l:List (Array Value))(fv:Value)(p:Array Value->Bool)(X:Nat->Prop)(w:World)(h:Sl 3 v l X w)(base:Nat)(hbase:base<=w.heap.size)(hp:Zv fv l p base w):
  Calls Tryz.prog 190 #[v,fv] w fun e w'=>e= .returned (.int .i64 (jx p l))/\Below w.heap.size w w':=by
 obtain⟨A,c,rfl,hlc,hcm⟩:=h.len;obtain⟨F,caps,rfl,hfn,hF⟩:=hp;have HN:=Lib.hid hfn;clear hfn;unfold maxLen at hcm;have hlm:l.length<=9223372036854775807:=Nat.le_trans hlc hcm;have HF:=Lib.hid hF;have H:=Lib.hid h;clear hF h;go_enter Tryz.func190,Tryz.ntmps190;go_wp2_with fail
 go_loopw [8] (fun i W=> ∃k:Nat,k<=l.length/\i= .int .i64 k/\Hid (∀j r,j<k->l[j]? =some r->p r=false)/\Hid (Below w.heap.size w W)) (fun i _=>l.length-(intOf i).toNat)
 case atStart=>exact⟨0,Nat.zero_le _,rfl,(fun j _ hj=>by omega),Below.refl _ _⟩
 case round=>
  obtain⟨k,hk,rfl,hno,hb⟩:=hrel;by_cases hlt:k<l.length
  ·obtain⟨r,hr⟩: ∃r,l[k]? =some r:=⟨l[k],List.getElem?_eq_getElem hlt⟩
   obtain⟨b,o,rfl,hbs,_,hrs,hc⟩:=H.out.row hr (by decide);have hcell: ∀j u,r[j]? =some u->wr.cell? ⟨b,o+k*3+j,none⟩=some u:=fun j u hj=>(hb.out.cell (p:=⟨b,o+k*3+j,none⟩) hbs).trans (hc j u hj);have HR:=Lib.hid hr;have hcall:=HF.out r (List.mem_of_getElem? hr) wr (hb.out.mono hbase);have HC:=Lib.hid hcall;clear hc hr hcall;cases hpr:p r with
   |true=>
    have HP:=Lib.hid hpr;rw[hpr] at HC;clear hpr;have hcf: ∀args w,(callFunc F args).run Tryz.prog w= .ok (.enter F args) w:=fun args w=>yk HN.out args;go_wp2_with(refine zZ rfl (.tmp 14) 170 rfl b _ 3 rfl r (Tryz.isAgg170 _) (Tryz.sizeOf170 _) hrs hcell ?_);refine HC.out.mono ?_;rintro e w1 ⟨rfl,hb1⟩;clear hcf;go_wp2_with fail
    go_ret
    exact⟨jb (vd hno.out HR.out HP.out).symm,hb.out.trans (hb1.mono hb.out.size)⟩
   |false=>
    have HP:=Lib.hid hpr;rw[hpr] at HC;clear hpr;have hcf: ∀args w,(callFunc F args).run Tryz.prog w= .ok (.enter F args) w:=fun args w=>yk HN.out args;go_wp2_with(refine zZ rfl (.tmp 14) 170 rfl b _ 3 rfl r (Tryz.isAgg170 _) (Tryz.sizeOf170 _) hrs hcell ?_);refine HC.out.mono ?_;rintro e w1 ⟨rfl,hb1⟩;clear hcf;go_wp2_with fail
    go_roundw
    case rel=>exact⟨k+1,by omega,by go_num,gq hno.out HR.out HP.out,hb.out.trans (hb1.mono hb.out.size)⟩
    case measure=>simp[intOf];omega
  ·obtain rfl:k=l.length:=by omega
   go_wp2_with fail
   go_ret
   exact⟨jb (vz hno.out).symm,hb.out⟩
end Go.Proofs.YtaccidkgnkmagaaGreatDoor.Top
