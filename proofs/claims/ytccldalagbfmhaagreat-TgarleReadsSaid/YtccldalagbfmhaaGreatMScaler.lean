/- Plain: a farbfeld file, as a decoder takes it. A scaler: its table is laid once; the law ScaleTables. -/
import Derived.Test.YtccldalagbfmhaaGreatMDecLaw
import Derived.Test.YtccldalagbfmhaaGreatMScale
import Derived.Test.YtccldalagbfmhaaGreatMSync
import Derived.Test.YtccldalagbfmhaaGreatProg
import Derived.ProofKit
import Derived.OpenShut
import Derived.Deep.Slices
import Derived.Deep.OwnRows
namespace Go.Proofs.YtccldalagbfmhaaGreat
set_option linter.unusedVariables false

/-- a sample of a pixel -/
def ffU (s : ByteArray) (i : Nat) : UInt8 := UInt8.ofNat (sround (beN s i 2 : Int) 65535).toNat
def ffQ (s : ByteArray) (k : Nat) : List UInt8 := [ffU s (16 + 8 * k), ffU s (16 + 8 * k + 2), ffU s (16 + 8 * k + 4), ffU s (16 + 8 * k + 6)]
def ffBytes (s : ByteArray) : Nat → List UInt8
  | 0 => []
  | n + 1 => ffBytes s n ++ ffQ s n
theorem ffBytes_len (s : ByteArray) (n : Nat) : (ffBytes s n).length = 4 * n := by
  induction n with
  | zero => rfl
  | succ n ih => unfold ffBytes; rw [List.length_append, ih]; simp [ffQ]; omega
end Go.Proofs.YtccldalagbfmhaaGreat
namespace Go.Proofs.YtccldalagbfmhaaGreat
open Go.RowKit
set_option linter.unusedVariables false

def sclN (m : Nat) : Nat := min m 255 + 1
/-- the table, its first q samples laid -/
def sclTab (m q : Nat) : Array Value := ((List.range (sclN m)).map fun j => Value.int .u8 (if j < q then smax (j : Int) (m : Int) else 0)).toArray
def sclCells (m : Nat) (done mu : Int) (t : Value) : Array Value := #[.int .i64 (m : Int), .int .u32 done, .int .i32 mu, .int .u32 0, t]
end Go.Proofs.YtccldalagbfmhaaGreat
