/-
  No cell of these rows narrows 'for every input' (looked for: loops, veiled, ifaces, maps, wideKeys, modest, calm, conditions, laid).
  DERIVED. THE GIVEN ROWS OF THIS SEAT. 3 by the template 'for every input the law returns true; each argument reads behind the call as it read before'; 0 by the template 'total and deterministic' (their statements: YtlehkgkomjojmaaGreatTotals.lean).
  GIVEN WITH THE SEED: the statements are not yours to turn. If you find one false, say at which input.
  Laid BY PROGRAM, IN A SANDBOX (cutbox-rows.mjs): the forced cells as the released guide's own fill.sh prints them over the translation cbf0f8df8009b211… (all of the seat's roots in one cut). By AI agents, Wed Nov 11 2026. No macro, syntax, notation, axiom, sorry.
-/
import Derived.Test.YtlehkgkomjojmaaGreatChecked
import GoSem.Claim
import GoSem.ClaimJoined
import GoSem.ClaimMapViews
import Derived.JoinedTies
import Derived.KernelRfl
namespace Go.Proofs.YtlehkgkomjojmaaGreat
/- THE CELL 'sum', in the pinned program and in every row, IS THE sha256 OF THE DUMP (.gsa) THAT YtlehkgkomjojmaaGreatProg.lean LOADS. Nothing in Lean hashes anything: it is a label: what it is worth is what the hold of that sum in a sandbox is worth. -/
noncomputable def Tryz.pinned : Pinned := { name := "ytlehkgkomjojmaagreat", sum := "cbf0f8df8009b21155f70d433b2cbcf7289340f91a63cb79c76a7ef57ebc70d9", checked := Tryz.checked }
namespace Rows
def none {H : Type} : Left H := { results := [], args := [] }

/-- 'tintypelaw29.SunBack': WHATEVER THE INPUT: true; the input reads as it did. -/
def sunBackSpec : ChangeSpec := { name := "sunBack", fn := fun _ => fun
  | [d1, d2] => { results := [.lit (.bool true)], args := [d1, d2] }
  | _ => none }
def sunBackRow : OpenClaim := { program := "ytlehkgkomjojmaagreat", sum := "cbf0f8df8009b21155f70d433b2cbcf7289340f91a63cb79c76a7ef57ebc70d9", func := "tintype/tintypelaw29.SunBack", spec := "sunBack", inPlace := ["sync/atomic.LoadUint32", "(*internal/sync.Mutex).Lock", "internal/race.Disable", "sync/atomic.CompareAndSwapInt32", "internal/race.Enable", "internal/race.Acquire", "(*internal/sync.Mutex).lockSlow", "internal/sync.runtime_canSpin", "internal/sync.runtime_doSpin", "internal/sync.throw", "internal/sync.runtime_nanotime", "internal/sync.runtime_SemacquireMutex", "sync/atomic.AddInt32", "(*internal/sync.Mutex).Unlock", "internal/race.ReleaseMerge", "(*internal/sync.Mutex).unlockSlow", "internal/sync.fatal", "internal/sync.runtime_Semrelease", "sync/atomic.StoreUint32", "sync/atomic.LoadInt64", "sync/atomic.CompareAndSwapInt64"], unfollowed := true, recurses := true, plainKeys := false, apart := false }
def SunBackSaid : Prop := sunBackRow.holds Tryz.pinned (OpenSpec.ofChange sunBackSpec)

/-- ITS FALSE NEIGHBOUR: 'it returns false'. Refute it at one input. -/
def sunBackWrong : ChangeSpec := { name := "sunBack", fn := fun _ => fun
  | [d1, d2] => { results := [.lit (.bool false)], args := [d1, d2] }
  | _ => none }
def SunBackWrongFalsely : Prop := sunBackRow.holds Tryz.pinned (OpenSpec.ofChange sunBackWrong)

/-- 'tintypelaw28.PcxBack': WHATEVER THE INPUT: true; the input reads as it did. -/
def pcxBackSpec : ChangeSpec := { name := "pcxBack", fn := fun _ => fun
  | [d1, d2] => { results := [.lit (.bool true)], args := [d1, d2] }
  | _ => none }
def pcxBackRow : OpenClaim := { program := "ytlehkgkomjojmaagreat", sum := "cbf0f8df8009b21155f70d433b2cbcf7289340f91a63cb79c76a7ef57ebc70d9", func := "tintype/tintypelaw28.PcxBack", spec := "pcxBack", inPlace := ["sync/atomic.LoadUint32", "(*internal/sync.Mutex).Lock", "internal/race.Disable", "sync/atomic.CompareAndSwapInt32", "internal/race.Enable", "internal/race.Acquire", "(*internal/sync.Mutex).lockSlow", "internal/sync.runtime_canSpin", "internal/sync.runtime_doSpin", "internal/sync.throw", "internal/sync.runtime_nanotime", "internal/sync.runtime_SemacquireMutex", "sync/atomic.AddInt32", "(*internal/sync.Mutex).Unlock", "internal/race.ReleaseMerge", "(*internal/sync.Mutex).unlockSlow", "internal/sync.fatal", "internal/sync.runtime_Semrelease", "sync/atomic.StoreUint32", "sync/atomic.LoadInt64", "sync/atomic.CompareAndSwapInt64"], unfollowed := true, recurses := true, plainKeys := false, apart := false }
def PcxBackSaid : Prop := pcxBackRow.holds Tryz.pinned (OpenSpec.ofChange pcxBackSpec)

/-- ITS FALSE NEIGHBOUR: 'it returns false'. Refute it at one input. -/
def pcxBackWrong : ChangeSpec := { name := "pcxBack", fn := fun _ => fun
  | [d1, d2] => { results := [.lit (.bool false)], args := [d1, d2] }
  | _ => none }
def PcxBackWrongFalsely : Prop := pcxBackRow.holds Tryz.pinned (OpenSpec.ofChange pcxBackWrong)

/-- 'tintypelaw19.TgaBack': WHATEVER THE INPUT: true; the input reads as it did. -/
def tgaBackSpec : ChangeSpec := { name := "tgaBack", fn := fun _ => fun
  | [d1, d2] => { results := [.lit (.bool true)], args := [d1, d2] }
  | _ => none }
def tgaBackRow : OpenClaim := { program := "ytlehkgkomjojmaagreat", sum := "cbf0f8df8009b21155f70d433b2cbcf7289340f91a63cb79c76a7ef57ebc70d9", func := "tintype/tintypelaw19.TgaBack", spec := "tgaBack", inPlace := ["sync/atomic.LoadUint32", "(*internal/sync.Mutex).Lock", "internal/race.Disable", "sync/atomic.CompareAndSwapInt32", "internal/race.Enable", "internal/race.Acquire", "(*internal/sync.Mutex).lockSlow", "internal/sync.runtime_canSpin", "internal/sync.runtime_doSpin", "internal/sync.throw", "internal/sync.runtime_nanotime", "internal/sync.runtime_SemacquireMutex", "sync/atomic.AddInt32", "(*internal/sync.Mutex).Unlock", "internal/race.ReleaseMerge", "(*internal/sync.Mutex).unlockSlow", "internal/sync.fatal", "internal/sync.runtime_Semrelease", "sync/atomic.StoreUint32", "sync/atomic.LoadInt64", "sync/atomic.CompareAndSwapInt64"], unfollowed := true, recurses := true, plainKeys := false, apart := false }
def TgaBackSaid : Prop := tgaBackRow.holds Tryz.pinned (OpenSpec.ofChange tgaBackSpec)

/-- ITS FALSE NEIGHBOUR: 'it returns false'. Refute it at one input. -/
def tgaBackWrong : ChangeSpec := { name := "tgaBack", fn := fun _ => fun
  | [d1, d2] => { results := [.lit (.bool false)], args := [d1, d2] }
  | _ => none }
def TgaBackWrongFalsely : Prop := tgaBackRow.holds Tryz.pinned (OpenSpec.ofChange tgaBackWrong)

/- THE SECOND FORM. 'bulk': how many values and letters a reading holds, each counted each time it is reached (what is shared counts as often as it is met; a slice's spare places count too). A statement '..UptoSaid' is the law's where the arguments, and the package variables that the reading takes, are together of bulk at most 1048576: NARROWER than '..Said'. Prove '..Said' where nothing that the law and all that it calls make is longer than what came in: it says more and counts as full. Else prove '..UptoSaid'. A law counts once. -/
mutual
def uptoBulk {H : Type} : DataW H → Nat
  | .lit (.string bytes) => bytes.length + 1
  | .lit _ => 1
  | .nil => 1
  | .ptr d => uptoBulk d + 1
  | .slice elems spare => uptoBulkAll elems + uptoBulkAll spare + 1
  | .agg parts => uptoBulkAll parts + 1
  | .iface _ d => uptoBulk d + 1
  | .map entries => uptoBulkEntries entries + 1
  | .held _ => 1
def uptoBulkAll {H : Type} : List (DataW H) → Nat
  | [] => 0
  | d :: r => uptoBulk d + uptoBulkAll r
def uptoBulkEntries {H : Type} : List (Lit × DataW H) → Nat
  | [] => 0
  | x :: r => uptoBulkEntry x + uptoBulkEntries r
def uptoBulkEntry {H : Type} : Lit × DataW H → Nat
  | (.string bytes, d) => bytes.length + uptoBulk d + 1
  | (_, d) => uptoBulk d + 1
 end
def uptoSmall : (H : Type) → List (DataW H) → Bool := fun _ ds => decide (uptoBulkAll ds ≤ 1048576)
def OpenSpec.upto (s : _root_.Go.ChangeSpec) : _root_.Go.OpenSpec := { _root_.Go.OpenSpec.ofChange s with cond := some uptoSmall }

/-- 'tintypelaw29.SunBack', WHERE WHAT IT READS IS OF BULK AT MOST 1048576: true; the input reads as it did. -/
def sunBackUptoRow : OpenClaim := { program := "ytlehkgkomjojmaagreat", sum := "cbf0f8df8009b21155f70d433b2cbcf7289340f91a63cb79c76a7ef57ebc70d9", func := "tintype/tintypelaw29.SunBack", spec := "sunBack", inPlace := ["sync/atomic.LoadUint32", "(*internal/sync.Mutex).Lock", "internal/race.Disable", "sync/atomic.CompareAndSwapInt32", "internal/race.Enable", "internal/race.Acquire", "(*internal/sync.Mutex).lockSlow", "internal/sync.runtime_canSpin", "internal/sync.runtime_doSpin", "internal/sync.throw", "internal/sync.runtime_nanotime", "internal/sync.runtime_SemacquireMutex", "sync/atomic.AddInt32", "(*internal/sync.Mutex).Unlock", "internal/race.ReleaseMerge", "(*internal/sync.Mutex).unlockSlow", "internal/sync.fatal", "internal/sync.runtime_Semrelease", "sync/atomic.StoreUint32", "sync/atomic.LoadInt64", "sync/atomic.CompareAndSwapInt64"], unfollowed := true, recurses := true, plainKeys := false, apart := false, narrowed := true }
def SunBackUptoSaid : Prop := sunBackUptoRow.holds Tryz.pinned (OpenSpec.upto sunBackSpec)

/-- 'tintypelaw28.PcxBack', WHERE WHAT IT READS IS OF BULK AT MOST 1048576: true; the input reads as it did. -/
def pcxBackUptoRow : OpenClaim := { program := "ytlehkgkomjojmaagreat", sum := "cbf0f8df8009b21155f70d433b2cbcf7289340f91a63cb79c76a7ef57ebc70d9", func := "tintype/tintypelaw28.PcxBack", spec := "pcxBack", inPlace := ["sync/atomic.LoadUint32", "(*internal/sync.Mutex).Lock", "internal/race.Disable", "sync/atomic.CompareAndSwapInt32", "internal/race.Enable", "internal/race.Acquire", "(*internal/sync.Mutex).lockSlow", "internal/sync.runtime_canSpin", "internal/sync.runtime_doSpin", "internal/sync.throw", "internal/sync.runtime_nanotime", "internal/sync.runtime_SemacquireMutex", "sync/atomic.AddInt32", "(*internal/sync.Mutex).Unlock", "internal/race.ReleaseMerge", "(*internal/sync.Mutex).unlockSlow", "internal/sync.fatal", "internal/sync.runtime_Semrelease", "sync/atomic.StoreUint32", "sync/atomic.LoadInt64", "sync/atomic.CompareAndSwapInt64"], unfollowed := true, recurses := true, plainKeys := false, apart := false, narrowed := true }
def PcxBackUptoSaid : Prop := pcxBackUptoRow.holds Tryz.pinned (OpenSpec.upto pcxBackSpec)

/-- 'tintypelaw19.TgaBack', WHERE WHAT IT READS IS OF BULK AT MOST 1048576: true; the input reads as it did. -/
def tgaBackUptoRow : OpenClaim := { program := "ytlehkgkomjojmaagreat", sum := "cbf0f8df8009b21155f70d433b2cbcf7289340f91a63cb79c76a7ef57ebc70d9", func := "tintype/tintypelaw19.TgaBack", spec := "tgaBack", inPlace := ["sync/atomic.LoadUint32", "(*internal/sync.Mutex).Lock", "internal/race.Disable", "sync/atomic.CompareAndSwapInt32", "internal/race.Enable", "internal/race.Acquire", "(*internal/sync.Mutex).lockSlow", "internal/sync.runtime_canSpin", "internal/sync.runtime_doSpin", "internal/sync.throw", "internal/sync.runtime_nanotime", "internal/sync.runtime_SemacquireMutex", "sync/atomic.AddInt32", "(*internal/sync.Mutex).Unlock", "internal/race.ReleaseMerge", "(*internal/sync.Mutex).unlockSlow", "internal/sync.fatal", "internal/sync.runtime_Semrelease", "sync/atomic.StoreUint32", "sync/atomic.LoadInt64", "sync/atomic.CompareAndSwapInt64"], unfollowed := true, recurses := true, plainKeys := false, apart := false, narrowed := true }
def TgaBackUptoSaid : Prop := tgaBackUptoRow.holds Tryz.pinned (OpenSpec.upto tgaBackSpec)

end Rows
end Go.Proofs.YtlehkgkomjojmaaGreat
