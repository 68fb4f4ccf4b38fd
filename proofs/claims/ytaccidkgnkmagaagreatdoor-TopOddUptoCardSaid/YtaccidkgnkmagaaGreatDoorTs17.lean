/-
  Walks and laws of the whole machine: Rep, Img. Conditions: each theorem names its own.
-/
import Derived.Test.YtaccidkgnkmagaaGreatDoorTs16
import Derived.Shelf.Strings.BuilderF
import Derived.Shelf.Strings.BuilderK
import Derived.Shelf.Strings.Builder2
import Derived.Shelf.Bits.Mul64
import Derived.Deep.LoopGhost
set_option maxRecDepth 16000
set_option maxHeartbeats 12800000
set_option linter.unusedVariables false
set_option linter.unusedSimpArgs false
namespace Go.Proofs.YtaccidkgnkmagaaGreatDoor.Top
section
open Go.Shelf Go.RowKit Go.Proofs.YtaccidkgnkmagaaGreatDoor
def laysS_ren:Go.Shelf.Ren:=⟨fun|169=>104|n=>n,fun|70=>200|9=>9|0=>0|72=>203|37=>201|127=>248|3=>3|5=>5|n=>n,fun|n=>n⟩
theorem laysS:Go.Proofs.Lays.n169 Tryz.prog laysS_ren:={
 mixed:=by kernel_rfl
 f169:=Tryz.func104.trans (congrArg some (by kernel_rfl))
 t0:=Tryz.underlying0
 a0:=Tryz.isAgg0
 z0:=Tryz.sizeOf0
 v0:=Tryz.zeroValue0
 t3:=Tryz.underlying3
 a3:=Tryz.isAgg3
 z3:=Tryz.sizeOf3
 v3:=Tryz.zeroValue3
 t9:=Tryz.underlying9
 a9:=Tryz.isAgg9
 z9:=Tryz.sizeOf9
 v9:=Tryz.zeroValue9
 t37:=Tryz.underlying201
 a37:=Tryz.isAgg201
 z37:=Tryz.sizeOf201
 v37:=Tryz.zeroValue201
 t70:=Tryz.underlying200
 a70:=Tryz.isAgg200
 z70:=Tryz.sizeOf200
 v70:=Tryz.zeroValue200
 t72:=Tryz.underlying203
 a72:=Tryz.isAgg203
 z72:=Tryz.sizeOf203
 v72:=Tryz.zeroValue203
 t127:=Tryz.underlying248
 a127:=Tryz.isAgg248
 z127:=Tryz.sizeOf248
 v127:=Tryz.zeroValue248}
theorem extraS:Builder.Extra Tryz.prog laysS_ren:={
 sizeBuilder:=by kernel_rfl
 liesBuilder:=by kernel_rfl
 t5:=Tryz.underlying5
 a5:=Tryz.isAgg5
 z5:=Tryz.sizeOf5
 v5:=Tryz.zeroValue5
 infoByte:=by kernel_rfl
 cellsByte:=by kernel_rfl
 sizeByte:=by kernel_rfl
 neB5:=by decide}
def laysM_ren:Go.Shelf.Ren:=⟨fun|212=>99|263=>134|264=>135|n=>n,fun|46=>196|51=>66|53=>32|109=>197|146=>244|148=>246|n=>n,fun|n=>n⟩
theorem laysM:Go.Proofs.Lays.n212 Tryz.prog laysM_ren:={
 mixed:=by kernel_rfl
 f212:=Tryz.func99.trans (congrArg some (by kernel_rfl))
 f263:=Tryz.func134.trans (congrArg some (by kernel_rfl))
 f264:=Tryz.func135.trans (congrArg some (by kernel_rfl))
 t46:=Tryz.underlying196
 a46:=Tryz.isAgg196
 z46:=Tryz.sizeOf196
 v46:=Tryz.zeroValue196
 t51:=Tryz.underlying66
 a51:=Tryz.isAgg66
 z51:=Tryz.sizeOf66
 v51:=Tryz.zeroValue66
 t53:=Tryz.underlying32
 a53:=Tryz.isAgg32
 z53:=Tryz.sizeOf32
 v53:=Tryz.zeroValue32
 t146:=Tryz.underlying244
 a146:=Tryz.isAgg244
 z146:=Tryz.sizeOf244
 v146:=Tryz.zeroValue244
 t148:=Tryz.underlying246
 a148:=Tryz.isAgg246
 z148:=Tryz.sizeOf246
 v148:=Tryz.zeroValue246}
def laysG_ren:Go.Shelf.Ren:=⟨fun|241=>138|277=>172|n=>n,fun|70=>200|9=>9|0=>0|72=>203|37=>201|127=>248|3=>3|5=>5|147=>269|n=>n,fun|n=>n⟩
theorem laysG:Go.Proofs.Lays.n241 Tryz.prog laysG_ren:={
 mixed:=by kernel_rfl
 f241:=Tryz.func138.trans (congrArg some (by kernel_rfl))
 f277:=Tryz.func172.trans (congrArg some (by kernel_rfl))
 t0:=Tryz.underlying0
 a0:=Tryz.isAgg0
 z0:=Tryz.sizeOf0
 v0:=Tryz.zeroValue0
 t3:=Tryz.underlying3
 a3:=Tryz.isAgg3
 z3:=Tryz.sizeOf3
 v3:=Tryz.zeroValue3
 t37:=Tryz.underlying201
 a37:=Tryz.isAgg201
 z37:=Tryz.sizeOf201
 v37:=Tryz.zeroValue201
 t70:=Tryz.underlying200
 a70:=Tryz.isAgg200
 z70:=Tryz.sizeOf200
 v70:=Tryz.zeroValue200
 t72:=Tryz.underlying203
 a72:=Tryz.isAgg203
 z72:=Tryz.sizeOf203
 v72:=Tryz.zeroValue203}
theorem extraG:Builder.Extra Tryz.prog laysG_ren:={
 sizeBuilder:=by kernel_rfl
 liesBuilder:=by kernel_rfl
 t5:=Tryz.underlying5
 a5:=Tryz.isAgg5
 z5:=Tryz.sizeOf5
 v5:=Tryz.zeroValue5
 infoByte:=by kernel_rfl
 cellsByte:=by kernel_rfl
 sizeByte:=by kernel_rfl
 neB5:=by decide}
abbrev IsB (B b:Nat) (bs:List Value) (w:World):Prop:=Lib.IsBuilderF 203 5 B b bs w
theorem sizeB:(Tryz.prog.info? 203).map (·.size)=some 2:=by kernel_rfl
theorem liesB:liesAt Tryz.prog Tryz.prog.depth 203 (2/Tryz.prog.cellsOf 203) 0 203 1=true:=by kernel_rfl
set_option maxRecDepth 100000 in
theorem b_check(B b:Nat)(bs:List Value)(w:World)(h:IsB B b bs w):
  Calls Tryz.prog 137 #[.pointer (some ⟨b,0,none⟩)] w fun e w'=>e= .returned (.tuple #[])/\(Lib.BuilderAtF 203 5 B b (.pointer (some ⟨b,0,none⟩)) bs w' /\Below B w w' /\Lib.OthersKept 5 (some b) w w'):=by
 obtain⟨j,hj,hjs⟩:=Option.map_eq_some_iff.1 sizeB;rcases h with h|h
 ·have h0:=h.cell0
  have hsh:=h.shape;have hfz:=h.frozen0;have hH:=Lib.hid h;clear h;go_enter Tryz.func137,Tryz.ntmps137;go_wp2
  rw[Lib.run_to_unsafe w ⟨b,0,none⟩ Tryz.underlying200 Tryz.underlying267 hj (by rw[hjs];decide) hsh (Nat.zero_lt_succ 1)];simp only[Result.andThen];rw[Oper.upon_value];go_wp2
  rw[run_callFunc_extern Tryz.func171 (by kernel_rfl) (by kernel_rfl) (by kernel_rfl) (e:=Extern.AbiNoEscape.same) (by kernel_rfl)];rw[Lib.run_noEscape];simp only[Result.andThen];rw[Oper.upon_value];go_wp2
  rw[Lib.run_from_unsafe w ⟨b,0,none⟩ Tryz.underlying267 Tryz.underlying200 hj hsh liesB];simp only[Result.andThen];rw[Oper.upon_value];go_wp2
  go_end0
  exact⟨rfl,hH.out.used _,(Below.refl B w).setCell (p:=⟨b,0,none⟩) hH.out.1 _,(Lib.OthersKept.refl _ _ w).setCell ⟨b,0,none⟩ rfl _⟩
 ·have h0:=h.cell0
  have hH:=Lib.hid h;clear h;go_enter Tryz.func137,Tryz.ntmps137;go_wp2
  rw[Lib.run_neq_ptr_same _ _ Tryz.underlying200 hj];go_wp2
  go_end0
  exact⟨rfl,hH.out,Below.refl B _,Lib.OthersKept.refl _ _ _⟩
set_option maxRecDepth 100000 in
theorem b_len(B b:Nat)(bs:List Value)(w:World)(h:IsB B b bs w):Calls Tryz.prog 103 #[.pointer (some ⟨b,0,none⟩)] w fun e w'=>e= .returned (.int .i64 bs.length)/\w'=w:=by
 obtain⟨p,hB,v,hbk,hown,hne⟩: ∃p,Lib.BuilderAtF 203 5 B b p bs w:=by
  rcases h with h|h
  ·exact⟨_,h⟩
  ·exact⟨_,h⟩
 obtain⟨ao,cap,rfl⟩: ∃ao cap,v= .slice ao bs.length cap:=by
  rcases hown.2 with⟨hv,h0⟩|⟨g,cap,cur,fz,hv,_⟩
  ·exact⟨none,0,by rw[hv,h0]⟩
  ·exact⟨_,_,hv⟩
 have c1:w.cell? ⟨b,1,none⟩=some (.slice ao bs.length cap):=by rw[Lib.cell_of_heap hbk];rfl
 clear hne hbk hown;go_enter Tryz.func103,Tryz.ntmps103;go_wp2
 go_ret
 exact⟨rfl,rfl⟩
theorem b_str(B b:Nat)(l:List UInt8)(w:World)(h:IsB B b (Lib.byteCells l) w)(hBw:B<=w.heap.size):
  Calls Tryz.prog 104 #[.pointer (some ⟨b,0,none⟩)] w fun e w'=>e= .returned (.string ⟨l.toArray⟩)/\IsB B b (Lib.byteCells l) w' /\Below B w w':=
 (Any.Builder_String_any_f laysS extraS B b l w h hBw).mono fun e w' hp=>hp
set_option maxRecDepth 100000 in
theorem b_write(B b:Nat)(bs:List Value)(s:ByteArray)(w:World)(h:IsB B b bs w)(hlen:bs.length+s.size<=1000000)(hBw:B<=w.heap.size):
  Calls Tryz.prog 102 #[.pointer (some ⟨b,0,none⟩),.string s] w fun e w'=>e= .returned (.tuple #[.int .i64 s.size,.nilIface])/\IsB B b (bs++Lib.strCells s) w' /\Below B w w':=by
 obtain⟨i0,hi,hz0,hz1,hz2⟩:=info_parts extraS.infoByte;have hH:=Lib.hid h;clear h;go_enter Tryz.func102,Tryz.ntmps102;go_wp2_with fail;refine(b_check B b bs _ hH.out).mono ?_;rintro e w1 ⟨rfl,h1,hb1,hk1⟩;obtain⟨hB,v,hbk,hown,hne⟩:=h1;have c0:w1.cell? ⟨b,0,none⟩=some (.pointer (some ⟨b,0,none⟩)):=by rw[Lib.cell_of_heap hbk];rfl
 have c1:w1.cell? ⟨b,1,none⟩=some v:=by rw[Lib.cell_of_heap hbk];rfl
 go_wp2_with(at_builtin;refine Lib.wpList_append_own_stringF _ rfl _ _ 201 9 rfl B 5 i0 Tryz.underlying201 Tryz.underlying9 hi hz0 hz1 hz2 _ _ _ rfl hown s rfl ?c3 ?c4 ?c5 ?_);case c3=>unfold maxLen;omega
 case c4=>omega
 case c5=>have:=hb1.size;omega
 intro v' w2 hown' hgrow _;have hlt:b<w1.heap.size:=by
  rcases Nat.lt_or_ge b w1.heap.size with h'|h'
  ·exact h'
  ·simp[Array.getElem?_eq_none h'] at hbk
 have hb2:w2.heap[b]? =some (.cells #[.pointer (some ⟨b,0,none⟩),v] 203 (0,0)):=by
  rw[hgrow.block b hlt (fun e=>hne e.symm)];exact hbk
 have d0:w2.cell? ⟨b,0,none⟩=some (.pointer (some ⟨b,0,none⟩)):=by rw[Lib.cell_of_heap hb2];rfl
 have d1:w2.cell? ⟨b,1,none⟩=some v:=by rw[Lib.cell_of_heap hb2];rfl
 have f1:w2.frozen? ⟨b,1,none⟩=false:=Lib.frozen_of_heap hb2 1;obtain⟨ao,n',cap,rfl⟩: ∃ao n' cap,v'= .slice ao n' cap:=by
  rcases hown'.2 with⟨hv,_⟩|⟨g,cap,cur,fz,hv,_⟩
  ·exact⟨_,_,_,hv⟩
  ·exact⟨_,_,_,hv⟩
 go_wp2
 go_ret2
 refine⟨rfl,.inr ?_,?_⟩
 ·exact Lib.BuilderAtF.put (T:=203) (e:=5) hB hb2 (bs':=bs++Lib.strCells s) (by simpa[Lib.strCells_length] using hown') (by decide)
 ·exact(hb1.grown hgrow (by have:=hb1.size;omega) (fun k hk=>(hown.lt k hk).1)).setCell (p:=⟨b,1,none⟩) hB _
set_option maxRecDepth 100000 in
theorem b_check0(B b:Nat)(w:World)(hB:B<=b)(hbk:w.heap[b]? =some (.cells #[.pointer none,.slice none 0 0] 203 (0,0))):
  Calls Tryz.prog 137 #[.pointer (some ⟨b,0,none⟩)] w fun e w'=>e= .returned (.tuple #[])/\w'=w.setCell ⟨b,0,none⟩ (.pointer (some ⟨b,0,none⟩)):=by
 obtain⟨j,hj,hjs⟩:=Option.map_eq_some_iff.1 sizeB;have h:Lib.BuilderAtF 203 5 B b (.pointer none) [] w:=⟨hB,.slice none 0 0,hbk,World.ownsRowF_of (World.ownsRow_nil _ _ _ _),by simp[Value.ownBlock]⟩;have h0:=h.cell0;have hsh:=h.shape;have hfz:=h.frozen0;clear h hbk;go_enter Tryz.func137,Tryz.ntmps137;go_wp2
 rw[Lib.run_to_unsafe w ⟨b,0,none⟩ Tryz.underlying200 Tryz.underlying267 hj (by rw[hjs];decide) hsh (Nat.zero_lt_succ 1)];simp only[Result.andThen];rw[Oper.upon_value];go_wp2
 rw[run_callFunc_extern Tryz.func171 (by kernel_rfl) (by kernel_rfl) (by kernel_rfl) (e:=Extern.AbiNoEscape.same) (by kernel_rfl)];rw[Lib.run_noEscape];simp only[Result.andThen];rw[Oper.upon_value];go_wp2
 rw[Lib.run_from_unsafe w ⟨b,0,none⟩ Tryz.underlying267 Tryz.underlying200 hj hsh liesB];simp only[Result.andThen];rw[Oper.upon_value];go_wp2
 go_end0
 exact⟨rfl,rfl⟩
set_option maxRecDepth 100000 in
theorem b_grow(B b n:Nat)(w:World)(hB:B<=b)(hbk:w.heap[b]? =some (.cells #[.pointer none,.slice none 0 0] 203 (0,0)))(hBw:B<=w.heap.size)(h1:1<=n)(hn:n<=1000000):
  Calls Tryz.prog 101 #[.pointer (some ⟨b,0,none⟩),.int .i64 n] w fun e w'=>e= .returned (.tuple #[])/\IsB B b [] w' /\Below B w w':=by
 have hbk1:(w.setCell ⟨b,0,none⟩ (.pointer (some ⟨b,0,none⟩))).heap[b]? =some (.cells #[.pointer (some ⟨b,0,none⟩),.slice none 0 0] 203 (0,0)):=by
  simp[World.setCell,Array.getElem?_modify,hbk]
 have hb1:Below B w (w.setCell ⟨b,0,none⟩ (.pointer (some ⟨b,0,none⟩))):=(Below.refl B w).setCell (p:=⟨b,0,none⟩) hB _;have HBK:=Lib.hid hbk;clear hbk;go_enter Tryz.func101,Tryz.ntmps101;go_wp2_with fail;refine(b_check0 B b _ hB HBK.out).mono ?_;rintro e w1 ⟨rfl,rfl⟩;generalize w.setCell ⟨b,0,none⟩ (.pointer (some ⟨b,0,none⟩))=w1 at hbk1 hb1;have c1:w1.cell? ⟨b,1,none⟩=some (.slice none 0 0):=by rw[Lib.cell_of_heap hbk1];rfl
 have hn1:IntKind.i64.wrap 0<(n:Int):=by
  have e:IntKind.i64.wrap 0=0:=rfl;rw[e];omega
 have HB1:=Lib.hid hbk1;clear hbk1
 go_upto_region 3 with fail
 go_quiet (fail);go_wp2_with fail;refine(Any.Builder_grow_fresh laysG extraG B b n (w1.drewN _) hB (by exact HB1.out) (Nat.le_trans hBw hb1.size) (by omega)).mono ?_;rintro e w2 ⟨rfl,h2,hb2⟩;go_wp2_with fail
 go_end0
 exact⟨rfl,Lib.IsBuilderF.of (.inr h2),(hb1.trans (show Below B w1 (w1.drewN nq) from⟨rfl,rfl,rfl,Nat.le_refl _,fun _ _=>rfl⟩)).trans hb2⟩
theorem run_min3{P:Program}{w:World}(ts:Array TypeId)(t:TypeId)(k k' k'':IntKind)(x y z:Int):
  (Builtin.min_ ts t #[.int k x,.int k' y,.int k'' z]).run P w= .ok (.int k (if z<(if y<x then y else x) then z else(if y<x then y else x))) w:=by
 simp[Builtin.min_,Builtin.min2]
set_option maxRecDepth 100000 in
theorem repeat_any(n:Nat)(hn:n<=64)(w:World):
  Calls Tryz.prog 74 #[.string ⟨#[0]⟩,.int .i64 n] w fun e w'=> ∃s:ByteArray,e= .returned (.string s)/\s.size=n/\Below w.heap.size w w':=by
 by_cases h0:n=0
 ·subst h0
  go_enter Tryz.func74,Tryz.ntmps74;go_wp2_with fail
  go_ret
  exact⟨_,rfl,rfl,Below.refl _ _⟩
 by_cases h1:n=1
 ·subst h1
  go_enter Tryz.func74,Tryz.ntmps74;go_wp2_with fail
  go_ret
  exact⟨_,rfl,rfl,Below.refl _ _⟩
 have d0:((n:Int)==0)=false:=by rw[beq_eq_false_iff_ne];omega
 have d1:((n:Int)==1)=false:=by rw[beq_eq_false_iff_ne];omega
 have hMul:=Any.bits_Mul laysM 1 n (by omega) (by omega) w;rw[Nat.one_mul,Nat.div_eq_of_lt (by omega:n<18446744073709551616),Nat.mod_eq_of_lt (by omega:n<18446744073709551616)] at hMul;have HM:=Lib.hid hMul;clear hMul;go_enter Tryz.func74,Tryz.ntmps74;go_wp2_with fail;refine HM.out.mono ?_;rintro e w1 ⟨rfl,rfl⟩
 go_upto_region 35 with fail
 go_upto_region 36 with fail
 have hlt:w1.heap.size<(w1.alloc (.cells #[.pointer none,.slice none 0 0] 203)).heap.size:=by simp
 go_wp2_with fail;refine(b_grow w1.heap.size w1.heap.size n _ (Nat.le_refl _) (heap_new _ _) (by simp) (by omega) (by omega)).mono ?_;rintro e w2 ⟨rfl,hB2,hb2⟩;have hs2:=hb2.size;have hbb:Below w1.heap.size w1 w2:=(xw w1 _).trans hb2;clear hb2;go_wp2_with fail;refine(b_write w1.heap.size w1.heap.size [] ⟨#[0]⟩ _ hB2 (by decide) hbb.size).mono ?_;rintro e w3 ⟨rfl,hB3,hb3⟩;have hb3:=hbb.trans hb3;clear hbb hB2 hs2;have hI: ∃l:List UInt8,l.length=1/\IsB w1.heap.size w1.heap.size (Lib.byteCells l) w3:=⟨[0],rfl,by simpa[Lib.strCells_eq] using hB3⟩;clear hB3;go_wp2_with fail
 go_loopg [] (n-1) (fun g W=> ∃l:List UInt8,1<=l.length/\l.length+g=n/\IsB w1.heap.size w1.heap.size (Lib.byteCells l) W/\Below w1.heap.size w1 W)
 case atStart=>
  obtain⟨l,hl,hB⟩:=hI;exact⟨l,by omega,by omega,hB,hb3⟩
 case round=>
  obtain⟨l,hl1,hlg,hB,hbx⟩:=hrel;have hbl:(Lib.byteCells l).length=l.length:=Lib.byteCells_length l;go_wp2_with fail;refine(b_len _ _ _ _ hB).mono ?_;rintro e w4 ⟨rfl,rfl⟩;rw[hbl];cases gk with
  |zero=>
   have hq: ¬((l.length:Int)<n):=by omega
   go_wp2_with fail;refine(b_str _ _ _ _ hB hbx.size).mono ?_;rintro e w5 ⟨rfl,_,hb5⟩;go_wp2_with fail
   go_ret
   exact⟨_,rfl,(by show l.toArray.size=n;simp;omega),hbx.trans hb5⟩
  |succ g=>
   have hq:(l.length:Int)<n:=by omega
   go_wp2_with fail;refine(b_len _ _ _ _ hB).mono ?_;rintro e w5 ⟨rfl,rfl⟩;rw[hbl];go_wp2_with fail;refine(b_len _ _ _ _ hB).mono ?_;rintro e w6 ⟨rfl,rfl⟩;rw[hbl];obtain⟨c,hc1,hc2,hc3,hmin⟩: ∃c:Nat,1<=c/\c<=l.length/\l.length+c<=n/\ ∀(ts:Array TypeId) (t:TypeId) (W:World),(Builtin.min_ ts t #[.int .i64 ((n:Int)-(l.length:Int)),.int .i64 (l.length:Int),.int .i64 (n:Int)]).run Tryz.prog W= .ok (.int .i64 (c:Int)) W:=by
    refine⟨min (n-l.length) l.length,by omega,by omega,by omega,fun ts t W=> ?_⟩;rw[run_min3];congr 2;split<;>split<;>omega
   go_wp2_with fail;refine(b_str _ _ _ _ hB hbx.size).mono ?_;rintro e w7 ⟨rfl,hB7,hb7⟩;obtain⟨S,hS⟩: ∃S:ByteArray,(⟨l.toArray⟩:ByteArray)=S:=⟨_,rfl⟩;have hSz:S.size=l.length:=by rw[<-hS];show l.toArray.size=_;simp
   rw[hS];clear hmin;have hcS:(c:Int)<=S.size:=by omega
   go_wp2_with fail;have hE:(S.extract 0 c).size=c:=by rw[ByteArray.size_extract];omega
   refine(b_write _ _ _ (S.extract 0 c) _ hB7 (by rw[hbl,hE];omega) (Nat.le_trans hbx.size hb7.size)).mono ?_;rintro e w8 ⟨rfl,hB8,hb8⟩;go_wp2_with fail
   go_roundg (n-(l.length+c))
   case measure=>omega
   case rel=>
    refine⟨l++(S.extract 0 c).data.toList,by simp;omega,?_,?_,hbx.trans (hb7.trans hb8)⟩
    ·have e1:(S.extract 0 c).data.toList.length=c:=by rw[<-Lib.size_eq];exact hE
     rw[List.length_append,e1];omega
    ·rw[Lib.strCells_eq,<-Lib.byteCells_append] at hB8
     exact hB8
end
open Go.RowKit
def ImgR(w:World)(e:Ending)(w':World):Prop:= ∃(m:ByteArray) (y:Int),e= .returned (.tuple #[.string m,.int .i64 y])/\m.size<=64/\(y=0\/y=4\/y=7)/\Below w.heap.size w w'
theorem make_any(s:ByteArray)(w:World):Calls Tryz.prog 63 #[.int .i64 64,.string s] w fun e w'=> ∃(m:ByteArray) (y:Int),e= .returned (.tuple #[.string m,.int .i64 y])/\m.size<=64/\(y=0\/y=4)/\Below w.heap.size w w':=by
 by_cases h:s.size<=64
 ·have h1: ¬((64:Int)<s.size):=by omega
  have hw:(64:Int)-s.size=((64-s.size:Nat):Int):=by omega
  go_enter Tryz.func63,Tryz.ntmps63;go_wp2_with fail;first|rw[hw]|skip
  refine(repeat_any (64-s.size) (by omega) _).mono ?_;rintro e W1 ⟨q,rfl,hq,hb⟩;have hsum:s.size+q.size<=9223372036854775807:=by omega
  go_wp2_with fail
  go_ret2
  exact⟨s++q,0,rfl,by rw[ByteArray.size_append];omega,.inl rfl,hb⟩
 ·have h1:(64:Int)<s.size:=by omega
  go_enter Tryz.func63,Tryz.ntmps63;go_wp2_with fail
  go_ret2
  exact⟨_,4,rfl,by decide,.inr rfl,Below.refl _ _⟩
theorem image_w(bk:Nat)(x:Kn)(X0:Nat->Prop)(w:World)(hk:Blk w bk (KC x) 116)(hs:Sl 1 x.vIm x.Im X0 w)(hi: ∀r∈x.Im,∃t:ByteArray,r= #[.string t])(A:Int)(hA0:0<=A)(hA1:A<4294967296):
  Calls Tryz.prog 52 #[.pointer (some ⟨bk,0,none⟩),.int .u32 A] w fun e w'=>ImgR w e w' /\(x.Im=[]-> ∃(q:ByteArray) (y:Int),e= .returned (.tuple #[.string q,.int .i64 y])/\y=7):=by
 obtain⟨Ai,ci,eI,hci,hcim⟩:=hs.len;unfold maxLen at hcim;have HS:Hid (Sl 1 x.vIm x.Im X0 w):=hs;have HIM:=Lib.hid hi;have hwA:IntKind.u64.wrap A=A:=qm (by omega) (by omega);have hwI:IntKind.u64.wrap (x.Im.length:Int)=x.Im.length:=qm (by omega) (by omega);have hck:=hk.rules;clear hk hs hi;have c6: ∀j,w.cell? ⟨bk,j,none⟩=(KC x)[j]? :=hck.1;have c8:w.cell? ⟨bk,8,none⟩=some x.vIm:=c6 8;rw[eI] at c8;clear hck c6;by_cases hbig:(x.Im.length:Int)<=A
 ·go_enter Tryz.func52,Tryz.ntmps52
  go_wp2_with fail
  go_ret2
  exact⟨⟨_,7,rfl,by decide,.inr (.inr rfl),Below.refl _ _⟩,fun _=>⟨_,7,rfl,rfl⟩⟩
 ·obtain⟨i,rfl,hi⟩: ∃i:Nat,A=(i:Int)/\i<x.Im.length:=⟨A.toNat,by omega,by omega⟩
  obtain⟨r,hr⟩: ∃r,x.Im[i]? =some r:=⟨_,List.getElem?_eq_getElem hi⟩;obtain⟨q,rfl⟩:=HIM.out r (List.mem_of_getElem? hr);have hsl:=HS.out;rw[eI] at hsl;obtain⟨b,o,rfl,hb,_,_,hc⟩:=hsl.row hr (by decide);have c9:=hc 0 _ rfl;simp only[Nat.mul_one,Nat.add_zero] at c9;have hi2:(i:Int)<x.Im.length:=by omega
  clear hc hsl;go_enter Tryz.func52,Tryz.ntmps52;go_wp2_with fail;refine(make_any q w).mono ?_;rintro e W1 ⟨m1,y,rfl,hm1,hy,hb1⟩;go_wp2_with fail
  go_ret2
  refine⟨⟨m1,y,rfl,hm1,?_,hb1⟩,fun e=> ?_⟩
  ·rcases hy with rfl|rfl<;>decide
  ·rw[e] at hi;cases hi
theorem image_any(bk n s m:Nat)(x:Kn)(X0:Nat->Prop)(w:World)(h:KPre bk n s m x X0 w)(A:Int)(hA0:0<=A)(hA1:A<4294967296):
  Calls Tryz.prog 52 #[.pointer (some ⟨bk,0,none⟩),.int .u32 A] w fun e w'=>ImgR w e w' /\(x.Im=[]-> ∃(q:ByteArray) (y:Int),e= .returned (.tuple #[.string q,.int .i64 y])/\y=7):=
 image_w bk x X0 w h.blk h.sl.Im h.ok.Im A hA0 hA1
end Go.Proofs.YtaccidkgnkmagaaGreatDoor.Top
