/-
  Walks and laws of the whole machine: Until. Conditions: each theorem names its own.
-/
import Derived.Test.YtaccidkgnkmagaaGreatDoorTs06
import Derived.Laws.Bits64
import Derived.Lib.Zigzag
set_option maxRecDepth 16000
set_option maxHeartbeats 12800000
set_option linter.unusedVariables false
set_option linter.unusedSimpArgs false
namespace Go.Proofs.YtaccidkgnkmagaaGreatDoor.Top
open Go.RowKit
theorem not_u64(x:Nat)(hx:x<18446744073709551616):bits .xor .u64 IntKind.u64.max (x:Int)=((18446744073709551615-x:Nat):Int):=by
 have e:IntKind.u64.max=((18446744073709551615:Nat):Int):=by rfl
 rw[e,bits_xor_u64_nat _ _ (by omega) hx];have:=Lib.xor_ones64 x (by omega);simp only[Nat.reducePow,Nat.reduceSub] at this;rw[this]
theorem until_one(x:Int)(h0:0<=x)(h1:x<=1000000000)(w:World):
  Calls Tryz.prog 71 #[.int .u64 x,.int .u32 1] w fun e w'=>e= .returned (.int .u64 (x+1))/\w=w':=by
 obtain⟨n,rfl⟩:=Int.eq_ofNat_of_zero_le h0;have hb:=not_u64 n (by omega);go_enter Tryz.func71,Tryz.ntmps71;go_wp2_with fail;all_goals first
  |contradiction
  |(go_ret;exact⟨by rw[IntKind.wrap_u64,Int.emod_eq_of_lt (by omega) (by omega)];rfl,rfl⟩)
  |(exfalso;rename_i h2 h3;have h4:bits .xor .u64 IntKind.u64.max (n:Int)<1:=h2;rw[hb] at h4;omega)
  |(exfalso;rename_i h2;have h4:bits .xor .u64 IntKind.u64.max (n:Int)<1:=h2;rw[hb] at h4;omega)
end Go.Proofs.YtaccidkgnkmagaaGreatDoor.Top
