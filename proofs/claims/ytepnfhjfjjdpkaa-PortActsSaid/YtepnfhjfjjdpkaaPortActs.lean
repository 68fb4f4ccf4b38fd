/-
  The walk of PortActs at every list: what is sent, taken, looked at, is as the document says. Conditions: the list has room for one more (24 bytes a message).
-/
import Derived.Test.YtepnfhjfjjdpkaaPortActsA
import Derived.Test.YtepnfhjfjjdpkaaPortActsB
namespace Go.Proofs.Ytepnfhjfjjdpkaa.Port
open Go.RowKit

theorem acts_any (kind fr to size depth lost now lost' : Int) (A B : Option Addr) (n c m d : Nat) (ms ns : List Msg) (body : ByteArray) (w : World) (hA : Rd w A n c ms) (hB : Rd w B m d ns) (hroom : (n + 1) * 24 ≤ 140737488355328) (hm : body.size ≤ maxLen) :
    Calls Try.prog 6 #[.agg #[.int .i64 kind, .int .i64 fr, .int .i64 to, .int .i64 size, .int .i64 depth, .slice A n c, .int .i64 lost, .int .u64 now, .string body, .slice B m d, .int .i64 lost']] w fun e w' => e = .returned (.bool true) ∧ Below w.heap.size w w' := by
  cases ms with
  | nil => exact acts_none kind fr to size depth lost now lost' A B n c m d ns body w hA hB hroom hm
  | cons msg ms => exact acts_some kind fr to size depth lost now lost' A B n c m d msg ms ns body w hA hB hroom hm

end Go.Proofs.Ytepnfhjfjjdpkaa.Port
