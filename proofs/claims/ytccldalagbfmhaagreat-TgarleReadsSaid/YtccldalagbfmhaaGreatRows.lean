/-
  No cell of these rows narrows 'for every input' (looked for: loops, veiled, ifaces, maps, wideKeys, modest, calm, conditions, laid).
  DERIVED. THE GIVEN ROWS OF THIS SEAT. 10 by the template 'for every input the law returns true; each argument reads behind the call as it read before'; 0 by the template 'total and deterministic' (their statements: YtccldalagbfmhaaGreatTotals.lean).
  GIVEN WITH THE SEED: the statements are not yours to turn. If you find one false, say at which input.
  Laid BY PROGRAM, IN A SANDBOX (cutbox-rows.mjs): the forced cells as the released guide's own fill.sh prints them over the translation e2e889695670b876… (all of the seat's roots in one cut). By AI agents, Wed Nov 11 2026. No macro, syntax, notation, axiom, sorry.
-/
import Derived.Test.YtccldalagbfmhaaGreatChecked
import GoSem.Claim
import GoSem.ClaimJoined
import GoSem.ClaimMapViews
import Derived.JoinedTies
import Derived.KernelRfl
namespace Go.Proofs.YtccldalagbfmhaaGreat
/- THE CELL 'sum', in the pinned program and in every row, IS THE sha256 OF THE DUMP (.gsa) THAT YtccldalagbfmhaaGreatProg.lean LOADS. Nothing in Lean hashes anything: it is a label: what it is worth is what the hold of that sum in a sandbox is worth. -/
noncomputable def Tryz.pinned : Pinned := { name := "ytccldalagbfmhaagreat", sum := "e2e889695670b8766b07175d9635e11ad99bd9cf03123ebb1a20b1c506f47df2", checked := Tryz.checked }
namespace Rows
def none {H : Type} : Left H := { results := [], args := [] }

/-- 'tintypelaw29.SunBudgets': WHATEVER THE INPUT: true; the input reads as it did. -/
def sunBudgetsSpec : ChangeSpec := { name := "sunBudgets", fn := fun _ => fun
  | [d1, d2] => { results := [.lit (.bool true)], args := [d1, d2] }
  | _ => none }
def sunBudgetsRow : OpenClaim := { program := "ytccldalagbfmhaagreat", sum := "e2e889695670b8766b07175d9635e11ad99bd9cf03123ebb1a20b1c506f47df2", func := "tintype/tintypelaw29.SunBudgets", spec := "sunBudgets", inPlace := ["sync/atomic.LoadUint32", "(*internal/sync.Mutex).Lock", "internal/race.Disable", "sync/atomic.CompareAndSwapInt32", "internal/race.Enable", "internal/race.Acquire", "(*internal/sync.Mutex).lockSlow", "internal/sync.runtime_canSpin", "internal/sync.runtime_doSpin", "internal/sync.throw", "internal/sync.runtime_nanotime", "internal/sync.runtime_SemacquireMutex", "sync/atomic.AddInt32", "(*internal/sync.Mutex).Unlock", "internal/race.ReleaseMerge", "(*internal/sync.Mutex).unlockSlow", "internal/sync.fatal", "internal/sync.runtime_Semrelease", "sync/atomic.StoreUint32", "sync/atomic.LoadInt64", "sync/atomic.CompareAndSwapInt64"], unfollowed := true, recurses := true, plainKeys := false, apart := false }
def SunBudgetsSaid : Prop := sunBudgetsRow.holds Tryz.pinned (OpenSpec.ofChange sunBudgetsSpec)

/-- ITS FALSE NEIGHBOUR: 'it returns false'. Refute it at one input. -/
def sunBudgetsWrong : ChangeSpec := { name := "sunBudgets", fn := fun _ => fun
  | [d1, d2] => { results := [.lit (.bool false)], args := [d1, d2] }
  | _ => none }
def SunBudgetsWrongFalsely : Prop := sunBudgetsRow.holds Tryz.pinned (OpenSpec.ofChange sunBudgetsWrong)

/-- 'tintypelaw29.SunDecodes': WHATEVER THE INPUT: true; the input reads as it did. -/
def sunDecodesSpec : ChangeSpec := { name := "sunDecodes", fn := fun _ => fun
  | [d] => { results := [.lit (.bool true)], args := [d] }
  | _ => none }
def sunDecodesRow : OpenClaim := { program := "ytccldalagbfmhaagreat", sum := "e2e889695670b8766b07175d9635e11ad99bd9cf03123ebb1a20b1c506f47df2", func := "tintype/tintypelaw29.SunDecodes", spec := "sunDecodes", inPlace := ["sync/atomic.LoadUint32", "(*internal/sync.Mutex).Lock", "internal/race.Disable", "sync/atomic.CompareAndSwapInt32", "internal/race.Enable", "internal/race.Acquire", "(*internal/sync.Mutex).lockSlow", "internal/sync.runtime_canSpin", "internal/sync.runtime_doSpin", "internal/sync.throw", "internal/sync.runtime_nanotime", "internal/sync.runtime_SemacquireMutex", "sync/atomic.AddInt32", "(*internal/sync.Mutex).Unlock", "internal/race.ReleaseMerge", "(*internal/sync.Mutex).unlockSlow", "internal/sync.fatal", "internal/sync.runtime_Semrelease", "sync/atomic.StoreUint32", "sync/atomic.LoadInt64", "sync/atomic.CompareAndSwapInt64"], unfollowed := true, recurses := true, plainKeys := false, apart := false }
def SunDecodesSaid : Prop := sunDecodesRow.holds Tryz.pinned (OpenSpec.ofChange sunDecodesSpec)

/-- ITS FALSE NEIGHBOUR: 'it returns false'. Refute it at one input. -/
def sunDecodesWrong : ChangeSpec := { name := "sunDecodes", fn := fun _ => fun
  | [d] => { results := [.lit (.bool false)], args := [d] }
  | _ => none }
def SunDecodesWrongFalsely : Prop := sunDecodesRow.holds Tryz.pinned (OpenSpec.ofChange sunDecodesWrong)

/-- 'tintypelaw28.PcxBudgets': WHATEVER THE INPUT: true; the input reads as it did. -/
def pcxBudgetsSpec : ChangeSpec := { name := "pcxBudgets", fn := fun _ => fun
  | [d1, d2] => { results := [.lit (.bool true)], args := [d1, d2] }
  | _ => none }
def pcxBudgetsRow : OpenClaim := { program := "ytccldalagbfmhaagreat", sum := "e2e889695670b8766b07175d9635e11ad99bd9cf03123ebb1a20b1c506f47df2", func := "tintype/tintypelaw28.PcxBudgets", spec := "pcxBudgets", inPlace := ["sync/atomic.LoadUint32", "(*internal/sync.Mutex).Lock", "internal/race.Disable", "sync/atomic.CompareAndSwapInt32", "internal/race.Enable", "internal/race.Acquire", "(*internal/sync.Mutex).lockSlow", "internal/sync.runtime_canSpin", "internal/sync.runtime_doSpin", "internal/sync.throw", "internal/sync.runtime_nanotime", "internal/sync.runtime_SemacquireMutex", "sync/atomic.AddInt32", "(*internal/sync.Mutex).Unlock", "internal/race.ReleaseMerge", "(*internal/sync.Mutex).unlockSlow", "internal/sync.fatal", "internal/sync.runtime_Semrelease", "sync/atomic.StoreUint32", "sync/atomic.LoadInt64", "sync/atomic.CompareAndSwapInt64"], unfollowed := true, recurses := true, plainKeys := false, apart := false }
def PcxBudgetsSaid : Prop := pcxBudgetsRow.holds Tryz.pinned (OpenSpec.ofChange pcxBudgetsSpec)

/-- ITS FALSE NEIGHBOUR: 'it returns false'. Refute it at one input. -/
def pcxBudgetsWrong : ChangeSpec := { name := "pcxBudgets", fn := fun _ => fun
  | [d1, d2] => { results := [.lit (.bool false)], args := [d1, d2] }
  | _ => none }
def PcxBudgetsWrongFalsely : Prop := pcxBudgetsRow.holds Tryz.pinned (OpenSpec.ofChange pcxBudgetsWrong)

/-- 'tintypelaw28.PcxDecodes': WHATEVER THE INPUT: true; the input reads as it did. -/
def pcxDecodesSpec : ChangeSpec := { name := "pcxDecodes", fn := fun _ => fun
  | [d] => { results := [.lit (.bool true)], args := [d] }
  | _ => none }
def pcxDecodesRow : OpenClaim := { program := "ytccldalagbfmhaagreat", sum := "e2e889695670b8766b07175d9635e11ad99bd9cf03123ebb1a20b1c506f47df2", func := "tintype/tintypelaw28.PcxDecodes", spec := "pcxDecodes", inPlace := ["sync/atomic.LoadUint32", "(*internal/sync.Mutex).Lock", "internal/race.Disable", "sync/atomic.CompareAndSwapInt32", "internal/race.Enable", "internal/race.Acquire", "(*internal/sync.Mutex).lockSlow", "internal/sync.runtime_canSpin", "internal/sync.runtime_doSpin", "internal/sync.throw", "internal/sync.runtime_nanotime", "internal/sync.runtime_SemacquireMutex", "sync/atomic.AddInt32", "(*internal/sync.Mutex).Unlock", "internal/race.ReleaseMerge", "(*internal/sync.Mutex).unlockSlow", "internal/sync.fatal", "internal/sync.runtime_Semrelease", "sync/atomic.StoreUint32", "sync/atomic.LoadInt64", "sync/atomic.CompareAndSwapInt64"], unfollowed := true, recurses := true, plainKeys := false, apart := false }
def PcxDecodesSaid : Prop := pcxDecodesRow.holds Tryz.pinned (OpenSpec.ofChange pcxDecodesSpec)

/-- ITS FALSE NEIGHBOUR: 'it returns false'. Refute it at one input. -/
def pcxDecodesWrong : ChangeSpec := { name := "pcxDecodes", fn := fun _ => fun
  | [d] => { results := [.lit (.bool false)], args := [d] }
  | _ => none }
def PcxDecodesWrongFalsely : Prop := pcxDecodesRow.holds Tryz.pinned (OpenSpec.ofChange pcxDecodesWrong)

/-- 'tintypelaw18.TgarleReads': WHATEVER THE INPUT: true; the input reads as it did. -/
def tgarleReadsSpec : ChangeSpec := { name := "tgarleReads", fn := fun _ => fun
  | [d] => { results := [.lit (.bool true)], args := [d] }
  | _ => none }
def tgarleReadsRow : OpenClaim := { program := "ytccldalagbfmhaagreat", sum := "e2e889695670b8766b07175d9635e11ad99bd9cf03123ebb1a20b1c506f47df2", func := "tintype/tintypelaw18.TgarleReads", spec := "tgarleReads", inPlace := ["sync/atomic.LoadUint32", "sync/atomic.LoadInt64", "sync/atomic.StoreUint32", "(*internal/sync.Mutex).Lock", "internal/race.Disable", "sync/atomic.CompareAndSwapInt32", "internal/race.Enable", "internal/race.Acquire", "(*internal/sync.Mutex).lockSlow", "internal/sync.runtime_canSpin", "internal/sync.runtime_doSpin", "internal/sync.throw", "internal/sync.runtime_nanotime", "internal/sync.runtime_SemacquireMutex", "sync/atomic.AddInt32", "(*internal/sync.Mutex).Unlock", "internal/race.ReleaseMerge", "(*internal/sync.Mutex).unlockSlow", "internal/sync.fatal", "internal/sync.runtime_Semrelease", "sync/atomic.CompareAndSwapInt64"], unfollowed := true, recurses := true, plainKeys := false, apart := false }
def TgarleReadsSaid : Prop := tgarleReadsRow.holds Tryz.pinned (OpenSpec.ofChange tgarleReadsSpec)

/-- ITS FALSE NEIGHBOUR: 'it returns false'. Refute it at one input. -/
def tgarleReadsWrong : ChangeSpec := { name := "tgarleReads", fn := fun _ => fun
  | [d] => { results := [.lit (.bool false)], args := [d] }
  | _ => none }
def TgarleReadsWrongFalsely : Prop := tgarleReadsRow.holds Tryz.pinned (OpenSpec.ofChange tgarleReadsWrong)

/-- 'tintypelaw19.TgaDecodes': WHATEVER THE INPUT: true; the input reads as it did. -/
def tgaDecodesSpec : ChangeSpec := { name := "tgaDecodes", fn := fun _ => fun
  | [d] => { results := [.lit (.bool true)], args := [d] }
  | _ => none }
def tgaDecodesRow : OpenClaim := { program := "ytccldalagbfmhaagreat", sum := "e2e889695670b8766b07175d9635e11ad99bd9cf03123ebb1a20b1c506f47df2", func := "tintype/tintypelaw19.TgaDecodes", spec := "tgaDecodes", inPlace := ["sync/atomic.LoadUint32", "(*internal/sync.Mutex).Lock", "internal/race.Disable", "sync/atomic.CompareAndSwapInt32", "internal/race.Enable", "internal/race.Acquire", "(*internal/sync.Mutex).lockSlow", "internal/sync.runtime_canSpin", "internal/sync.runtime_doSpin", "internal/sync.throw", "internal/sync.runtime_nanotime", "internal/sync.runtime_SemacquireMutex", "sync/atomic.AddInt32", "(*internal/sync.Mutex).Unlock", "internal/race.ReleaseMerge", "(*internal/sync.Mutex).unlockSlow", "internal/sync.fatal", "internal/sync.runtime_Semrelease", "sync/atomic.StoreUint32", "sync/atomic.LoadInt64", "sync/atomic.CompareAndSwapInt64"], unfollowed := true, recurses := true, plainKeys := false, apart := false }
def TgaDecodesSaid : Prop := tgaDecodesRow.holds Tryz.pinned (OpenSpec.ofChange tgaDecodesSpec)

/-- ITS FALSE NEIGHBOUR: 'it returns false'. Refute it at one input. -/
def tgaDecodesWrong : ChangeSpec := { name := "tgaDecodes", fn := fun _ => fun
  | [d] => { results := [.lit (.bool false)], args := [d] }
  | _ => none }
def TgaDecodesWrongFalsely : Prop := tgaDecodesRow.holds Tryz.pinned (OpenSpec.ofChange tgaDecodesWrong)

/-- 'tintypelaw19.TgaBudgets': WHATEVER THE INPUT: true; the input reads as it did. -/
def tgaBudgetsSpec : ChangeSpec := { name := "tgaBudgets", fn := fun _ => fun
  | [d1, d2] => { results := [.lit (.bool true)], args := [d1, d2] }
  | _ => none }
def tgaBudgetsRow : OpenClaim := { program := "ytccldalagbfmhaagreat", sum := "e2e889695670b8766b07175d9635e11ad99bd9cf03123ebb1a20b1c506f47df2", func := "tintype/tintypelaw19.TgaBudgets", spec := "tgaBudgets", inPlace := ["sync/atomic.LoadUint32", "(*internal/sync.Mutex).Lock", "internal/race.Disable", "sync/atomic.CompareAndSwapInt32", "internal/race.Enable", "internal/race.Acquire", "(*internal/sync.Mutex).lockSlow", "internal/sync.runtime_canSpin", "internal/sync.runtime_doSpin", "internal/sync.throw", "internal/sync.runtime_nanotime", "internal/sync.runtime_SemacquireMutex", "sync/atomic.AddInt32", "(*internal/sync.Mutex).Unlock", "internal/race.ReleaseMerge", "(*internal/sync.Mutex).unlockSlow", "internal/sync.fatal", "internal/sync.runtime_Semrelease", "sync/atomic.StoreUint32", "sync/atomic.LoadInt64", "sync/atomic.CompareAndSwapInt64"], unfollowed := true, recurses := true, plainKeys := false, apart := false }
def TgaBudgetsSaid : Prop := tgaBudgetsRow.holds Tryz.pinned (OpenSpec.ofChange tgaBudgetsSpec)

/-- ITS FALSE NEIGHBOUR: 'it returns false'. Refute it at one input. -/
def tgaBudgetsWrong : ChangeSpec := { name := "tgaBudgets", fn := fun _ => fun
  | [d1, d2] => { results := [.lit (.bool false)], args := [d1, d2] }
  | _ => none }
def TgaBudgetsWrongFalsely : Prop := tgaBudgetsRow.holds Tryz.pinned (OpenSpec.ofChange tgaBudgetsWrong)

/-- 'tintypelaw29.SunBack': WHATEVER THE INPUT: true; the input reads as it did. -/
def sunBackSpec : ChangeSpec := { name := "sunBack", fn := fun _ => fun
  | [d1, d2] => { results := [.lit (.bool true)], args := [d1, d2] }
  | _ => none }
def sunBackRow : OpenClaim := { program := "ytccldalagbfmhaagreat", sum := "e2e889695670b8766b07175d9635e11ad99bd9cf03123ebb1a20b1c506f47df2", func := "tintype/tintypelaw29.SunBack", spec := "sunBack", inPlace := ["sync/atomic.LoadUint32", "(*internal/sync.Mutex).Lock", "internal/race.Disable", "sync/atomic.CompareAndSwapInt32", "internal/race.Enable", "internal/race.Acquire", "(*internal/sync.Mutex).lockSlow", "internal/sync.runtime_canSpin", "internal/sync.runtime_doSpin", "internal/sync.throw", "internal/sync.runtime_nanotime", "internal/sync.runtime_SemacquireMutex", "sync/atomic.AddInt32", "(*internal/sync.Mutex).Unlock", "internal/race.ReleaseMerge", "(*internal/sync.Mutex).unlockSlow", "internal/sync.fatal", "internal/sync.runtime_Semrelease", "sync/atomic.StoreUint32", "sync/atomic.LoadInt64", "sync/atomic.CompareAndSwapInt64"], unfollowed := true, recurses := true, plainKeys := false, apart := false }
def SunBackSaid : Prop := sunBackRow.holds Tryz.pinned (OpenSpec.ofChange sunBackSpec)

/-- ITS FALSE NEIGHBOUR: 'it returns false'. Refute it at one input. -/
def sunBackWrong : ChangeSpec := { name := "sunBack", fn := fun _ => fun
  | [d1, d2] => { results := [.lit (.bool false)], args := [d1, d2] }
  | _ => none }
def SunBackWrongFalsely : Prop := sunBackRow.holds Tryz.pinned (OpenSpec.ofChange sunBackWrong)

/-- 'tintypelaw28.PcxBack': WHATEVER THE INPUT: true; the input reads as it did. -/
def pcxBackSpec : ChangeSpec := { name := "pcxBack", fn := fun _ => fun
  | [d1, d2] => { results := [.lit (.bool true)], args := [d1, d2] }
  | _ => none }
def pcxBackRow : OpenClaim := { program := "ytccldalagbfmhaagreat", sum := "e2e889695670b8766b07175d9635e11ad99bd9cf03123ebb1a20b1c506f47df2", func := "tintype/tintypelaw28.PcxBack", spec := "pcxBack", inPlace := ["sync/atomic.LoadUint32", "(*internal/sync.Mutex).Lock", "internal/race.Disable", "sync/atomic.CompareAndSwapInt32", "internal/race.Enable", "internal/race.Acquire", "(*internal/sync.Mutex).lockSlow", "internal/sync.runtime_canSpin", "internal/sync.runtime_doSpin", "internal/sync.throw", "internal/sync.runtime_nanotime", "internal/sync.runtime_SemacquireMutex", "sync/atomic.AddInt32", "(*internal/sync.Mutex).Unlock", "internal/race.ReleaseMerge", "(*internal/sync.Mutex).unlockSlow", "internal/sync.fatal", "internal/sync.runtime_Semrelease", "sync/atomic.StoreUint32", "sync/atomic.LoadInt64", "sync/atomic.CompareAndSwapInt64"], unfollowed := true, recurses := true, plainKeys := false, apart := false }
def PcxBackSaid : Prop := pcxBackRow.holds Tryz.pinned (OpenSpec.ofChange pcxBackSpec)

/-- ITS FALSE NEIGHBOUR: 'it returns false'. Refute it at one input. -/
def pcxBackWrong : ChangeSpec := { name := "pcxBack", fn := fun _ => fun
  | [d1, d2] => { results := [.lit (.bool false)], args := [d1, d2] }
  | _ => none }
def PcxBackWrongFalsely : Prop := pcxBackRow.holds Tryz.pinned (OpenSpec.ofChange pcxBackWrong)

/-- 'tintypelaw19.TgaBack': WHATEVER THE INPUT: true; the input reads as it did. -/
def tgaBackSpec : ChangeSpec := { name := "tgaBack", fn := fun _ => fun
  | [d1, d2] => { results := [.lit (.bool true)], args := [d1, d2] }
  | _ => none }
def tgaBackRow : OpenClaim := { program := "ytccldalagbfmhaagreat", sum := "e2e889695670b8766b07175d9635e11ad99bd9cf03123ebb1a20b1c506f47df2", func := "tintype/tintypelaw19.TgaBack", spec := "tgaBack", inPlace := ["sync/atomic.LoadUint32", "(*internal/sync.Mutex).Lock", "internal/race.Disable", "sync/atomic.CompareAndSwapInt32", "internal/race.Enable", "internal/race.Acquire", "(*internal/sync.Mutex).lockSlow", "internal/sync.runtime_canSpin", "internal/sync.runtime_doSpin", "internal/sync.throw", "internal/sync.runtime_nanotime", "internal/sync.runtime_SemacquireMutex", "sync/atomic.AddInt32", "(*internal/sync.Mutex).Unlock", "internal/race.ReleaseMerge", "(*internal/sync.Mutex).unlockSlow", "internal/sync.fatal", "internal/sync.runtime_Semrelease", "sync/atomic.StoreUint32", "sync/atomic.LoadInt64", "sync/atomic.CompareAndSwapInt64"], unfollowed := true, recurses := true, plainKeys := false, apart := false }
def TgaBackSaid : Prop := tgaBackRow.holds Tryz.pinned (OpenSpec.ofChange tgaBackSpec)

/-- ITS FALSE NEIGHBOUR: 'it returns false'. Refute it at one input. -/
def tgaBackWrong : ChangeSpec := { name := "tgaBack", fn := fun _ => fun
  | [d1, d2] => { results := [.lit (.bool false)], args := [d1, d2] }
  | _ => none }
def TgaBackWrongFalsely : Prop := tgaBackRow.holds Tryz.pinned (OpenSpec.ofChange tgaBackWrong)

/- THE SECOND FORM. 'bulk': how many values and letters a reading holds, each counted each time it is reached (what is shared counts as often as it is met; a slice's spare places count too). A statement '..UptoSaid' is the law's where the arguments, and the package variables that the reading takes, are together of bulk at most 1048576: NARROWER than '..Said'. Prove '..Said' where nothing that the law and all that it calls make is longer than what came in: it says more and counts as full. Else prove '..UptoSaid'. A law counts once. -/
mutual
def uptoBulk {H : Type} : DataW H → Nat
  | .lit (.string bytes) => bytes.length + 1
  | .lit _ => 1
  | .nil => 1
  | .ptr d => uptoBulk d + 1
  | .slice elems spare => uptoBulkAll elems + uptoBulkAll spare + 1
  | .agg parts => uptoBulkAll parts + 1
  | .iface _ d => uptoBulk d + 1
  | .map entries => uptoBulkEntries entries + 1
  | .held _ => 1
def uptoBulkAll {H : Type} : List (DataW H) → Nat
  | [] => 0
  | d :: r => uptoBulk d + uptoBulkAll r
def uptoBulkEntries {H : Type} : List (Lit × DataW H) → Nat
  | [] => 0
  | x :: r => uptoBulkEntry x + uptoBulkEntries r
def uptoBulkEntry {H : Type} : Lit × DataW H → Nat
  | (.string bytes, d) => bytes.length + uptoBulk d + 1
  | (_, d) => uptoBulk d + 1
 end
def uptoSmall : (H : Type) → List (DataW H) → Bool := fun _ ds => decide (uptoBulkAll ds ≤ 1048576)
def OpenSpec.upto (s : _root_.Go.ChangeSpec) : _root_.Go.OpenSpec := { _root_.Go.OpenSpec.ofChange s with cond := some uptoSmall }

/-- 'tintypelaw29.SunBudgets', WHERE WHAT IT READS IS OF BULK AT MOST 1048576: true; the input reads as it did. -/
def sunBudgetsUptoRow : OpenClaim := { program := "ytccldalagbfmhaagreat", sum := "e2e889695670b8766b07175d9635e11ad99bd9cf03123ebb1a20b1c506f47df2", func := "tintype/tintypelaw29.SunBudgets", spec := "sunBudgets", inPlace := ["sync/atomic.LoadUint32", "(*internal/sync.Mutex).Lock", "internal/race.Disable", "sync/atomic.CompareAndSwapInt32", "internal/race.Enable", "internal/race.Acquire", "(*internal/sync.Mutex).lockSlow", "internal/sync.runtime_canSpin", "internal/sync.runtime_doSpin", "internal/sync.throw", "internal/sync.runtime_nanotime", "internal/sync.runtime_SemacquireMutex", "sync/atomic.AddInt32", "(*internal/sync.Mutex).Unlock", "internal/race.ReleaseMerge", "(*internal/sync.Mutex).unlockSlow", "internal/sync.fatal", "internal/sync.runtime_Semrelease", "sync/atomic.StoreUint32", "sync/atomic.LoadInt64", "sync/atomic.CompareAndSwapInt64"], unfollowed := true, recurses := true, plainKeys := false, apart := false, narrowed := true }
def SunBudgetsUptoSaid : Prop := sunBudgetsUptoRow.holds Tryz.pinned (OpenSpec.upto sunBudgetsSpec)

/-- 'tintypelaw29.SunDecodes', WHERE WHAT IT READS IS OF BULK AT MOST 1048576: true; the input reads as it did. -/
def sunDecodesUptoRow : OpenClaim := { program := "ytccldalagbfmhaagreat", sum := "e2e889695670b8766b07175d9635e11ad99bd9cf03123ebb1a20b1c506f47df2", func := "tintype/tintypelaw29.SunDecodes", spec := "sunDecodes", inPlace := ["sync/atomic.LoadUint32", "(*internal/sync.Mutex).Lock", "internal/race.Disable", "sync/atomic.CompareAndSwapInt32", "internal/race.Enable", "internal/race.Acquire", "(*internal/sync.Mutex).lockSlow", "internal/sync.runtime_canSpin", "internal/sync.runtime_doSpin", "internal/sync.throw", "internal/sync.runtime_nanotime", "internal/sync.runtime_SemacquireMutex", "sync/atomic.AddInt32", "(*internal/sync.Mutex).Unlock", "internal/race.ReleaseMerge", "(*internal/sync.Mutex).unlockSlow", "internal/sync.fatal", "internal/sync.runtime_Semrelease", "sync/atomic.StoreUint32", "sync/atomic.LoadInt64", "sync/atomic.CompareAndSwapInt64"], unfollowed := true, recurses := true, plainKeys := false, apart := false, narrowed := true }
def SunDecodesUptoSaid : Prop := sunDecodesUptoRow.holds Tryz.pinned (OpenSpec.upto sunDecodesSpec)

/-- 'tintypelaw28.PcxBudgets', WHERE WHAT IT READS IS OF BULK AT MOST 1048576: true; the input reads as it did. -/
def pcxBudgetsUptoRow : OpenClaim := { program := "ytccldalagbfmhaagreat", sum := "e2e889695670b8766b07175d9635e11ad99bd9cf03123ebb1a20b1c506f47df2", func := "tintype/tintypelaw28.PcxBudgets", spec := "pcxBudgets", inPlace := ["sync/atomic.LoadUint32", "(*internal/sync.Mutex).Lock", "internal/race.Disable", "sync/atomic.CompareAndSwapInt32", "internal/race.Enable", "internal/race.Acquire", "(*internal/sync.Mutex).lockSlow", "internal/sync.runtime_canSpin", "internal/sync.runtime_doSpin", "internal/sync.throw", "internal/sync.runtime_nanotime", "internal/sync.runtime_SemacquireMutex", "sync/atomic.AddInt32", "(*internal/sync.Mutex).Unlock", "internal/race.ReleaseMerge", "(*internal/sync.Mutex).unlockSlow", "internal/sync.fatal", "internal/sync.runtime_Semrelease", "sync/atomic.StoreUint32", "sync/atomic.LoadInt64", "sync/atomic.CompareAndSwapInt64"], unfollowed := true, recurses := true, plainKeys := false, apart := false, narrowed := true }
def PcxBudgetsUptoSaid : Prop := pcxBudgetsUptoRow.holds Tryz.pinned (OpenSpec.upto pcxBudgetsSpec)

/-- 'tintypelaw28.PcxDecodes', WHERE WHAT IT READS IS OF BULK AT MOST 1048576: true; the input reads as it did. -/
def pcxDecodesUptoRow : OpenClaim := { program := "ytccldalagbfmhaagreat", sum := "e2e889695670b8766b07175d9635e11ad99bd9cf03123ebb1a20b1c506f47df2", func := "tintype/tintypelaw28.PcxDecodes", spec := "pcxDecodes", inPlace := ["sync/atomic.LoadUint32", "(*internal/sync.Mutex).Lock", "internal/race.Disable", "sync/atomic.CompareAndSwapInt32", "internal/race.Enable", "internal/race.Acquire", "(*internal/sync.Mutex).lockSlow", "internal/sync.runtime_canSpin", "internal/sync.runtime_doSpin", "internal/sync.throw", "internal/sync.runtime_nanotime", "internal/sync.runtime_SemacquireMutex", "sync/atomic.AddInt32", "(*internal/sync.Mutex).Unlock", "internal/race.ReleaseMerge", "(*internal/sync.Mutex).unlockSlow", "internal/sync.fatal", "internal/sync.runtime_Semrelease", "sync/atomic.StoreUint32", "sync/atomic.LoadInt64", "sync/atomic.CompareAndSwapInt64"], unfollowed := true, recurses := true, plainKeys := false, apart := false, narrowed := true }
def PcxDecodesUptoSaid : Prop := pcxDecodesUptoRow.holds Tryz.pinned (OpenSpec.upto pcxDecodesSpec)

/-- 'tintypelaw18.TgarleReads', WHERE WHAT IT READS IS OF BULK AT MOST 1048576: true; the input reads as it did. -/
def tgarleReadsUptoRow : OpenClaim := { program := "ytccldalagbfmhaagreat", sum := "e2e889695670b8766b07175d9635e11ad99bd9cf03123ebb1a20b1c506f47df2", func := "tintype/tintypelaw18.TgarleReads", spec := "tgarleReads", inPlace := ["sync/atomic.LoadUint32", "sync/atomic.LoadInt64", "sync/atomic.StoreUint32", "(*internal/sync.Mutex).Lock", "internal/race.Disable", "sync/atomic.CompareAndSwapInt32", "internal/race.Enable", "internal/race.Acquire", "(*internal/sync.Mutex).lockSlow", "internal/sync.runtime_canSpin", "internal/sync.runtime_doSpin", "internal/sync.throw", "internal/sync.runtime_nanotime", "internal/sync.runtime_SemacquireMutex", "sync/atomic.AddInt32", "(*internal/sync.Mutex).Unlock", "internal/race.ReleaseMerge", "(*internal/sync.Mutex).unlockSlow", "internal/sync.fatal", "internal/sync.runtime_Semrelease", "sync/atomic.CompareAndSwapInt64"], unfollowed := true, recurses := true, plainKeys := false, apart := false, narrowed := true }
def TgarleReadsUptoSaid : Prop := tgarleReadsUptoRow.holds Tryz.pinned (OpenSpec.upto tgarleReadsSpec)

/-- 'tintypelaw19.TgaDecodes', WHERE WHAT IT READS IS OF BULK AT MOST 1048576: true; the input reads as it did. -/
def tgaDecodesUptoRow : OpenClaim := { program := "ytccldalagbfmhaagreat", sum := "e2e889695670b8766b07175d9635e11ad99bd9cf03123ebb1a20b1c506f47df2", func := "tintype/tintypelaw19.TgaDecodes", spec := "tgaDecodes", inPlace := ["sync/atomic.LoadUint32", "(*internal/sync.Mutex).Lock", "internal/race.Disable", "sync/atomic.CompareAndSwapInt32", "internal/race.Enable", "internal/race.Acquire", "(*internal/sync.Mutex).lockSlow", "internal/sync.runtime_canSpin", "internal/sync.runtime_doSpin", "internal/sync.throw", "internal/sync.runtime_nanotime", "internal/sync.runtime_SemacquireMutex", "sync/atomic.AddInt32", "(*internal/sync.Mutex).Unlock", "internal/race.ReleaseMerge", "(*internal/sync.Mutex).unlockSlow", "internal/sync.fatal", "internal/sync.runtime_Semrelease", "sync/atomic.StoreUint32", "sync/atomic.LoadInt64", "sync/atomic.CompareAndSwapInt64"], unfollowed := true, recurses := true, plainKeys := false, apart := false, narrowed := true }
def TgaDecodesUptoSaid : Prop := tgaDecodesUptoRow.holds Tryz.pinned (OpenSpec.upto tgaDecodesSpec)

/-- 'tintypelaw19.TgaBudgets', WHERE WHAT IT READS IS OF BULK AT MOST 1048576: true; the input reads as it did. -/
def tgaBudgetsUptoRow : OpenClaim := { program := "ytccldalagbfmhaagreat", sum := "e2e889695670b8766b07175d9635e11ad99bd9cf03123ebb1a20b1c506f47df2", func := "tintype/tintypelaw19.TgaBudgets", spec := "tgaBudgets", inPlace := ["sync/atomic.LoadUint32", "(*internal/sync.Mutex).Lock", "internal/race.Disable", "sync/atomic.CompareAndSwapInt32", "internal/race.Enable", "internal/race.Acquire", "(*internal/sync.Mutex).lockSlow", "internal/sync.runtime_canSpin", "internal/sync.runtime_doSpin", "internal/sync.throw", "internal/sync.runtime_nanotime", "internal/sync.runtime_SemacquireMutex", "sync/atomic.AddInt32", "(*internal/sync.Mutex).Unlock", "internal/race.ReleaseMerge", "(*internal/sync.Mutex).unlockSlow", "internal/sync.fatal", "internal/sync.runtime_Semrelease", "sync/atomic.StoreUint32", "sync/atomic.LoadInt64", "sync/atomic.CompareAndSwapInt64"], unfollowed := true, recurses := true, plainKeys := false, apart := false, narrowed := true }
def TgaBudgetsUptoSaid : Prop := tgaBudgetsUptoRow.holds Tryz.pinned (OpenSpec.upto tgaBudgetsSpec)

/-- 'tintypelaw29.SunBack', WHERE WHAT IT READS IS OF BULK AT MOST 1048576: true; the input reads as it did. -/
def sunBackUptoRow : OpenClaim := { program := "ytccldalagbfmhaagreat", sum := "e2e889695670b8766b07175d9635e11ad99bd9cf03123ebb1a20b1c506f47df2", func := "tintype/tintypelaw29.SunBack", spec := "sunBack", inPlace := ["sync/atomic.LoadUint32", "(*internal/sync.Mutex).Lock", "internal/race.Disable", "sync/atomic.CompareAndSwapInt32", "internal/race.Enable", "internal/race.Acquire", "(*internal/sync.Mutex).lockSlow", "internal/sync.runtime_canSpin", "internal/sync.runtime_doSpin", "internal/sync.throw", "internal/sync.runtime_nanotime", "internal/sync.runtime_SemacquireMutex", "sync/atomic.AddInt32", "(*internal/sync.Mutex).Unlock", "internal/race.ReleaseMerge", "(*internal/sync.Mutex).unlockSlow", "internal/sync.fatal", "internal/sync.runtime_Semrelease", "sync/atomic.StoreUint32", "sync/atomic.LoadInt64", "sync/atomic.CompareAndSwapInt64"], unfollowed := true, recurses := true, plainKeys := false, apart := false, narrowed := true }
def SunBackUptoSaid : Prop := sunBackUptoRow.holds Tryz.pinned (OpenSpec.upto sunBackSpec)

/-- 'tintypelaw28.PcxBack', WHERE WHAT IT READS IS OF BULK AT MOST 1048576: true; the input reads as it did. -/
def pcxBackUptoRow : OpenClaim := { program := "ytccldalagbfmhaagreat", sum := "e2e889695670b8766b07175d9635e11ad99bd9cf03123ebb1a20b1c506f47df2", func := "tintype/tintypelaw28.PcxBack", spec := "pcxBack", inPlace := ["sync/atomic.LoadUint32", "(*internal/sync.Mutex).Lock", "internal/race.Disable", "sync/atomic.CompareAndSwapInt32", "internal/race.Enable", "internal/race.Acquire", "(*internal/sync.Mutex).lockSlow", "internal/sync.runtime_canSpin", "internal/sync.runtime_doSpin", "internal/sync.throw", "internal/sync.runtime_nanotime", "internal/sync.runtime_SemacquireMutex", "sync/atomic.AddInt32", "(*internal/sync.Mutex).Unlock", "internal/race.ReleaseMerge", "(*internal/sync.Mutex).unlockSlow", "internal/sync.fatal", "internal/sync.runtime_Semrelease", "sync/atomic.StoreUint32", "sync/atomic.LoadInt64", "sync/atomic.CompareAndSwapInt64"], unfollowed := true, recurses := true, plainKeys := false, apart := false, narrowed := true }
def PcxBackUptoSaid : Prop := pcxBackUptoRow.holds Tryz.pinned (OpenSpec.upto pcxBackSpec)

/-- 'tintypelaw19.TgaBack', WHERE WHAT IT READS IS OF BULK AT MOST 1048576: true; the input reads as it did. -/
def tgaBackUptoRow : OpenClaim := { program := "ytccldalagbfmhaagreat", sum := "e2e889695670b8766b07175d9635e11ad99bd9cf03123ebb1a20b1c506f47df2", func := "tintype/tintypelaw19.TgaBack", spec := "tgaBack", inPlace := ["sync/atomic.LoadUint32", "(*internal/sync.Mutex).Lock", "internal/race.Disable", "sync/atomic.CompareAndSwapInt32", "internal/race.Enable", "internal/race.Acquire", "(*internal/sync.Mutex).lockSlow", "internal/sync.runtime_canSpin", "internal/sync.runtime_doSpin", "internal/sync.throw", "internal/sync.runtime_nanotime", "internal/sync.runtime_SemacquireMutex", "sync/atomic.AddInt32", "(*internal/sync.Mutex).Unlock", "internal/race.ReleaseMerge", "(*internal/sync.Mutex).unlockSlow", "internal/sync.fatal", "internal/sync.runtime_Semrelease", "sync/atomic.StoreUint32", "sync/atomic.LoadInt64", "sync/atomic.CompareAndSwapInt64"], unfollowed := true, recurses := true, plainKeys := false, apart := false, narrowed := true }
def TgaBackUptoSaid : Prop := tgaBackUptoRow.holds Tryz.pinned (OpenSpec.upto tgaBackSpec)

end Rows
end Go.Proofs.YtccldalagbfmhaaGreat
