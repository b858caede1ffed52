/- Bytes of targets: machcode.Decode, for any bytes. -/
import Derived.Test.YtinfeglhjmnlaaaDoorIc
namespace Go.Proofs.YtinfeglhjmnlaaaDoor.pm
open Go.RowKit
theorem dec_any (A : Option Addr) (n c : Nat) (l : List Nat) (w : World) (hT : Dt w) (hb : Bs w w.heap.size A n l) (hn : n ≤ maxLen) (hc : n ≤ c) (hcm : c ≤ maxLen) :
    Calls Tryd.prog 17 #[.slice A n c] w (DcD l w) := by
  by_cases h : 1048576 < n ∨ n < 10
  · exact dec_err A n c l w hb hn h
  · exact dec_ok A n c l w hT hb (by omega) (by omega) hc hcm
end Go.Proofs.YtinfeglhjmnlaaaDoor.pm
