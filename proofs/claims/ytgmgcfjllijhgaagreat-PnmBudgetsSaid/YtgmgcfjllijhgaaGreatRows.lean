/-
  No cell of these rows narrows 'for every input' (looked for: loops, veiled, ifaces, maps, wideKeys, modest, calm, conditions, laid).
  DERIVED. THE GIVEN ROWS OF THIS SEAT. 5 by the template 'for every input the law returns true; each argument reads behind the call as it read before'; 0 by the template 'total and deterministic' (their statements: YtgmgcfjllijhgaaGreatTotals.lean).
  GIVEN WITH THE SEED: the statements are not yours to turn. If you find one false, say at which input.
  Laid BY PROGRAM, IN A SANDBOX (cutbox-rows.mjs): the forced cells as the released guide's own fill.sh prints them over the translation 55590d5e00fbeb98… (all of the seat's roots in one cut). By AI agents, Wed Nov 11 2026. No macro, syntax, notation, axiom, sorry.
-/
import Derived.Test.YtgmgcfjllijhgaaGreatChecked
import GoSem.Claim
import GoSem.ClaimJoined
import GoSem.ClaimMapViews
import Derived.JoinedTies
import Derived.KernelRfl
namespace Go.Proofs.YtgmgcfjllijhgaaGreat
/- THE CELL 'sum', in the pinned program and in every row, IS THE sha256 OF THE DUMP (.gsa) THAT YtgmgcfjllijhgaaGreatProg.lean LOADS. Nothing in Lean hashes anything: it is a label: what it is worth is what the hold of that sum in a sandbox is worth. -/
noncomputable def Tryz.pinned : Pinned := { name := "ytgmgcfjllijhgaagreat", sum := "55590d5e00fbeb988f6df3fa726b2e8bc21f58f34b2b38da7975b25c88816e18", checked := Tryz.checked }
namespace Rows
def none {H : Type} : Left H := { results := [], args := [] }

/-- 'tintypelaw13.PnmtextReads': WHATEVER THE INPUT: true; the input reads as it did. -/
def pnmtextReadsSpec : ChangeSpec := { name := "pnmtextReads", fn := fun _ => fun
  | [d] => { results := [.lit (.bool true)], args := [d] }
  | _ => none }
def pnmtextReadsRow : OpenClaim := { program := "ytgmgcfjllijhgaagreat", sum := "55590d5e00fbeb988f6df3fa726b2e8bc21f58f34b2b38da7975b25c88816e18", func := "tintype/tintypelaw13.PnmtextReads", spec := "pnmtextReads", inPlace := ["sync/atomic.LoadUint32", "sync/atomic.LoadInt64", "sync/atomic.StoreUint32", "(*internal/sync.Mutex).Lock", "internal/race.Disable", "sync/atomic.CompareAndSwapInt32", "internal/race.Enable", "internal/race.Acquire", "(*internal/sync.Mutex).lockSlow", "internal/sync.runtime_canSpin", "internal/sync.runtime_doSpin", "internal/sync.throw", "internal/sync.runtime_nanotime", "internal/sync.runtime_SemacquireMutex", "sync/atomic.AddInt32", "(*internal/sync.Mutex).Unlock", "internal/race.ReleaseMerge", "(*internal/sync.Mutex).unlockSlow", "internal/sync.fatal", "internal/sync.runtime_Semrelease", "sync/atomic.CompareAndSwapInt64"], unfollowed := true, recurses := true, apart := false }
def PnmtextReadsSaid : Prop := pnmtextReadsRow.holds Tryz.pinned (OpenSpec.ofChange pnmtextReadsSpec)

/-- ITS FALSE NEIGHBOUR: 'it returns false'. Refute it at one input. -/
def pnmtextReadsWrong : ChangeSpec := { name := "pnmtextReads", fn := fun _ => fun
  | [d] => { results := [.lit (.bool false)], args := [d] }
  | _ => none }
def PnmtextReadsWrongFalsely : Prop := pnmtextReadsRow.holds Tryz.pinned (OpenSpec.ofChange pnmtextReadsWrong)

/-- 'tintypelaw14.PnmrawReads': WHATEVER THE INPUT: true; the input reads as it did. -/
def pnmrawReadsSpec : ChangeSpec := { name := "pnmrawReads", fn := fun _ => fun
  | [d] => { results := [.lit (.bool true)], args := [d] }
  | _ => none }
def pnmrawReadsRow : OpenClaim := { program := "ytgmgcfjllijhgaagreat", sum := "55590d5e00fbeb988f6df3fa726b2e8bc21f58f34b2b38da7975b25c88816e18", func := "tintype/tintypelaw14.PnmrawReads", spec := "pnmrawReads", inPlace := ["sync/atomic.LoadUint32", "sync/atomic.LoadInt64", "sync/atomic.StoreUint32", "(*internal/sync.Mutex).Lock", "internal/race.Disable", "sync/atomic.CompareAndSwapInt32", "internal/race.Enable", "internal/race.Acquire", "(*internal/sync.Mutex).lockSlow", "internal/sync.runtime_canSpin", "internal/sync.runtime_doSpin", "internal/sync.throw", "internal/sync.runtime_nanotime", "internal/sync.runtime_SemacquireMutex", "sync/atomic.AddInt32", "(*internal/sync.Mutex).Unlock", "internal/race.ReleaseMerge", "(*internal/sync.Mutex).unlockSlow", "internal/sync.fatal", "internal/sync.runtime_Semrelease", "sync/atomic.CompareAndSwapInt64"], unfollowed := true, recurses := true, apart := false }
def PnmrawReadsSaid : Prop := pnmrawReadsRow.holds Tryz.pinned (OpenSpec.ofChange pnmrawReadsSpec)

/-- ITS FALSE NEIGHBOUR: 'it returns false'. Refute it at one input. -/
def pnmrawReadsWrong : ChangeSpec := { name := "pnmrawReads", fn := fun _ => fun
  | [d] => { results := [.lit (.bool false)], args := [d] }
  | _ => none }
def PnmrawReadsWrongFalsely : Prop := pnmrawReadsRow.holds Tryz.pinned (OpenSpec.ofChange pnmrawReadsWrong)

/-- 'tintypelaw14.PnmrawSteps': WHATEVER THE INPUT: true; the input reads as it did. -/
def pnmrawStepsSpec : ChangeSpec := { name := "pnmrawSteps", fn := fun _ => fun
  | [d] => { results := [.lit (.bool true)], args := [d] }
  | _ => none }
def pnmrawStepsRow : OpenClaim := { program := "ytgmgcfjllijhgaagreat", sum := "55590d5e00fbeb988f6df3fa726b2e8bc21f58f34b2b38da7975b25c88816e18", func := "tintype/tintypelaw14.PnmrawSteps", spec := "pnmrawSteps", inPlace := ["sync/atomic.LoadUint32", "sync/atomic.LoadInt64", "sync/atomic.StoreUint32", "(*internal/sync.Mutex).Lock", "internal/race.Disable", "sync/atomic.CompareAndSwapInt32", "internal/race.Enable", "internal/race.Acquire", "(*internal/sync.Mutex).lockSlow", "internal/sync.runtime_canSpin", "internal/sync.runtime_doSpin", "internal/sync.throw", "internal/sync.runtime_nanotime", "internal/sync.runtime_SemacquireMutex", "sync/atomic.AddInt32", "(*internal/sync.Mutex).Unlock", "internal/race.ReleaseMerge", "(*internal/sync.Mutex).unlockSlow", "internal/sync.fatal", "internal/sync.runtime_Semrelease", "sync/atomic.CompareAndSwapInt64"], unfollowed := true, recurses := true, apart := false }
def PnmrawStepsSaid : Prop := pnmrawStepsRow.holds Tryz.pinned (OpenSpec.ofChange pnmrawStepsSpec)

/-- ITS FALSE NEIGHBOUR: 'it returns false'. Refute it at one input. -/
def pnmrawStepsWrong : ChangeSpec := { name := "pnmrawSteps", fn := fun _ => fun
  | [d] => { results := [.lit (.bool false)], args := [d] }
  | _ => none }
def PnmrawStepsWrongFalsely : Prop := pnmrawStepsRow.holds Tryz.pinned (OpenSpec.ofChange pnmrawStepsWrong)

/-- 'tintypelaw15.PnmDecodes': WHATEVER THE INPUT: true; the input reads as it did. -/
def pnmDecodesSpec : ChangeSpec := { name := "pnmDecodes", fn := fun _ => fun
  | [d] => { results := [.lit (.bool true)], args := [d] }
  | _ => none }
def pnmDecodesRow : OpenClaim := { program := "ytgmgcfjllijhgaagreat", sum := "55590d5e00fbeb988f6df3fa726b2e8bc21f58f34b2b38da7975b25c88816e18", func := "tintype/tintypelaw15.PnmDecodes", spec := "pnmDecodes", inPlace := ["sync/atomic.LoadUint32", "(*internal/sync.Mutex).Lock", "internal/race.Disable", "sync/atomic.CompareAndSwapInt32", "internal/race.Enable", "internal/race.Acquire", "(*internal/sync.Mutex).lockSlow", "internal/sync.runtime_canSpin", "internal/sync.runtime_doSpin", "internal/sync.throw", "internal/sync.runtime_nanotime", "internal/sync.runtime_SemacquireMutex", "sync/atomic.AddInt32", "(*internal/sync.Mutex).Unlock", "internal/race.ReleaseMerge", "(*internal/sync.Mutex).unlockSlow", "internal/sync.fatal", "internal/sync.runtime_Semrelease", "sync/atomic.StoreUint32", "sync/atomic.LoadInt64", "sync/atomic.CompareAndSwapInt64"], unfollowed := true, recurses := true, apart := false }
def PnmDecodesSaid : Prop := pnmDecodesRow.holds Tryz.pinned (OpenSpec.ofChange pnmDecodesSpec)

/-- ITS FALSE NEIGHBOUR: 'it returns false'. Refute it at one input. -/
def pnmDecodesWrong : ChangeSpec := { name := "pnmDecodes", fn := fun _ => fun
  | [d] => { results := [.lit (.bool false)], args := [d] }
  | _ => none }
def PnmDecodesWrongFalsely : Prop := pnmDecodesRow.holds Tryz.pinned (OpenSpec.ofChange pnmDecodesWrong)

/-- 'tintypelaw15.PnmBudgets': WHATEVER THE INPUT: true; the input reads as it did. -/
def pnmBudgetsSpec : ChangeSpec := { name := "pnmBudgets", fn := fun _ => fun
  | [d1, d2] => { results := [.lit (.bool true)], args := [d1, d2] }
  | _ => none }
def pnmBudgetsRow : OpenClaim := { program := "ytgmgcfjllijhgaagreat", sum := "55590d5e00fbeb988f6df3fa726b2e8bc21f58f34b2b38da7975b25c88816e18", func := "tintype/tintypelaw15.PnmBudgets", spec := "pnmBudgets", inPlace := ["sync/atomic.LoadUint32", "(*internal/sync.Mutex).Lock", "internal/race.Disable", "sync/atomic.CompareAndSwapInt32", "internal/race.Enable", "internal/race.Acquire", "(*internal/sync.Mutex).lockSlow", "internal/sync.runtime_canSpin", "internal/sync.runtime_doSpin", "internal/sync.throw", "internal/sync.runtime_nanotime", "internal/sync.runtime_SemacquireMutex", "sync/atomic.AddInt32", "(*internal/sync.Mutex).Unlock", "internal/race.ReleaseMerge", "(*internal/sync.Mutex).unlockSlow", "internal/sync.fatal", "internal/sync.runtime_Semrelease", "sync/atomic.StoreUint32", "sync/atomic.LoadInt64", "sync/atomic.CompareAndSwapInt64"], unfollowed := true, recurses := true, apart := false }
def PnmBudgetsSaid : Prop := pnmBudgetsRow.holds Tryz.pinned (OpenSpec.ofChange pnmBudgetsSpec)

/-- ITS FALSE NEIGHBOUR: 'it returns false'. Refute it at one input. -/
def pnmBudgetsWrong : ChangeSpec := { name := "pnmBudgets", fn := fun _ => fun
  | [d1, d2] => { results := [.lit (.bool false)], args := [d1, d2] }
  | _ => none }
def PnmBudgetsWrongFalsely : Prop := pnmBudgetsRow.holds Tryz.pinned (OpenSpec.ofChange pnmBudgetsWrong)

/- THE SECOND FORM. 'bulk': how many values and letters a reading holds, each counted each time it is reached (what is shared counts as often as it is met; a slice's spare places count too). A statement '..UptoSaid' is the law's where the arguments, and the package variables that the reading takes, are together of bulk at most 1048576: NARROWER than '..Said'. Prove '..Said' where nothing that the law and all that it calls make is longer than what came in: it says more and counts as full. Else prove '..UptoSaid'. A law counts once. -/
mutual
def uptoBulk {H : Type} : DataW H → Nat
  | .lit (.string bytes) => bytes.length + 1
  | .lit _ => 1
  | .nil => 1
  | .ptr d => uptoBulk d + 1
  | .slice elems spare => uptoBulkAll elems + uptoBulkAll spare + 1
  | .agg parts => uptoBulkAll parts + 1
  | .iface _ d => uptoBulk d + 1
  | .map entries => uptoBulkEntries entries + 1
  | .held _ => 1
def uptoBulkAll {H : Type} : List (DataW H) → Nat
  | [] => 0
  | d :: r => uptoBulk d + uptoBulkAll r
def uptoBulkEntries {H : Type} : List (Lit × DataW H) → Nat
  | [] => 0
  | x :: r => uptoBulkEntry x + uptoBulkEntries r
def uptoBulkEntry {H : Type} : Lit × DataW H → Nat
  | (.string bytes, d) => bytes.length + uptoBulk d + 1
  | (_, d) => uptoBulk d + 1
 end
def uptoSmall : (H : Type) → List (DataW H) → Bool := fun _ ds => decide (uptoBulkAll ds ≤ 1048576)
def OpenSpec.upto (s : _root_.Go.ChangeSpec) : _root_.Go.OpenSpec := { _root_.Go.OpenSpec.ofChange s with cond := some uptoSmall }

/-- 'tintypelaw13.PnmtextReads', WHERE WHAT IT READS IS OF BULK AT MOST 1048576: true; the input reads as it did. -/
def pnmtextReadsUptoRow : OpenClaim := { program := "ytgmgcfjllijhgaagreat", sum := "55590d5e00fbeb988f6df3fa726b2e8bc21f58f34b2b38da7975b25c88816e18", func := "tintype/tintypelaw13.PnmtextReads", spec := "pnmtextReads", inPlace := ["sync/atomic.LoadUint32", "sync/atomic.LoadInt64", "sync/atomic.StoreUint32", "(*internal/sync.Mutex).Lock", "internal/race.Disable", "sync/atomic.CompareAndSwapInt32", "internal/race.Enable", "internal/race.Acquire", "(*internal/sync.Mutex).lockSlow", "internal/sync.runtime_canSpin", "internal/sync.runtime_doSpin", "internal/sync.throw", "internal/sync.runtime_nanotime", "internal/sync.runtime_SemacquireMutex", "sync/atomic.AddInt32", "(*internal/sync.Mutex).Unlock", "internal/race.ReleaseMerge", "(*internal/sync.Mutex).unlockSlow", "internal/sync.fatal", "internal/sync.runtime_Semrelease", "sync/atomic.CompareAndSwapInt64"], unfollowed := true, recurses := true, apart := false, narrowed := true }
def PnmtextReadsUptoSaid : Prop := pnmtextReadsUptoRow.holds Tryz.pinned (OpenSpec.upto pnmtextReadsSpec)

/-- 'tintypelaw14.PnmrawReads', WHERE WHAT IT READS IS OF BULK AT MOST 1048576: true; the input reads as it did. -/
def pnmrawReadsUptoRow : OpenClaim := { program := "ytgmgcfjllijhgaagreat", sum := "55590d5e00fbeb988f6df3fa726b2e8bc21f58f34b2b38da7975b25c88816e18", func := "tintype/tintypelaw14.PnmrawReads", spec := "pnmrawReads", inPlace := ["sync/atomic.LoadUint32", "sync/atomic.LoadInt64", "sync/atomic.StoreUint32", "(*internal/sync.Mutex).Lock", "internal/race.Disable", "sync/atomic.CompareAndSwapInt32", "internal/race.Enable", "internal/race.Acquire", "(*internal/sync.Mutex).lockSlow", "internal/sync.runtime_canSpin", "internal/sync.runtime_doSpin", "internal/sync.throw", "internal/sync.runtime_nanotime", "internal/sync.runtime_SemacquireMutex", "sync/atomic.AddInt32", "(*internal/sync.Mutex).Unlock", "internal/race.ReleaseMerge", "(*internal/sync.Mutex).unlockSlow", "internal/sync.fatal", "internal/sync.runtime_Semrelease", "sync/atomic.CompareAndSwapInt64"], unfollowed := true, recurses := true, apart := false, narrowed := true }
def PnmrawReadsUptoSaid : Prop := pnmrawReadsUptoRow.holds Tryz.pinned (OpenSpec.upto pnmrawReadsSpec)

/-- 'tintypelaw14.PnmrawSteps', WHERE WHAT IT READS IS OF BULK AT MOST 1048576: true; the input reads as it did. -/
def pnmrawStepsUptoRow : OpenClaim := { program := "ytgmgcfjllijhgaagreat", sum := "55590d5e00fbeb988f6df3fa726b2e8bc21f58f34b2b38da7975b25c88816e18", func := "tintype/tintypelaw14.PnmrawSteps", spec := "pnmrawSteps", inPlace := ["sync/atomic.LoadUint32", "sync/atomic.LoadInt64", "sync/atomic.StoreUint32", "(*internal/sync.Mutex).Lock", "internal/race.Disable", "sync/atomic.CompareAndSwapInt32", "internal/race.Enable", "internal/race.Acquire", "(*internal/sync.Mutex).lockSlow", "internal/sync.runtime_canSpin", "internal/sync.runtime_doSpin", "internal/sync.throw", "internal/sync.runtime_nanotime", "internal/sync.runtime_SemacquireMutex", "sync/atomic.AddInt32", "(*internal/sync.Mutex).Unlock", "internal/race.ReleaseMerge", "(*internal/sync.Mutex).unlockSlow", "internal/sync.fatal", "internal/sync.runtime_Semrelease", "sync/atomic.CompareAndSwapInt64"], unfollowed := true, recurses := true, apart := false, narrowed := true }
def PnmrawStepsUptoSaid : Prop := pnmrawStepsUptoRow.holds Tryz.pinned (OpenSpec.upto pnmrawStepsSpec)

/-- 'tintypelaw15.PnmDecodes', WHERE WHAT IT READS IS OF BULK AT MOST 1048576: true; the input reads as it did. -/
def pnmDecodesUptoRow : OpenClaim := { program := "ytgmgcfjllijhgaagreat", sum := "55590d5e00fbeb988f6df3fa726b2e8bc21f58f34b2b38da7975b25c88816e18", func := "tintype/tintypelaw15.PnmDecodes", spec := "pnmDecodes", inPlace := ["sync/atomic.LoadUint32", "(*internal/sync.Mutex).Lock", "internal/race.Disable", "sync/atomic.CompareAndSwapInt32", "internal/race.Enable", "internal/race.Acquire", "(*internal/sync.Mutex).lockSlow", "internal/sync.runtime_canSpin", "internal/sync.runtime_doSpin", "internal/sync.throw", "internal/sync.runtime_nanotime", "internal/sync.runtime_SemacquireMutex", "sync/atomic.AddInt32", "(*internal/sync.Mutex).Unlock", "internal/race.ReleaseMerge", "(*internal/sync.Mutex).unlockSlow", "internal/sync.fatal", "internal/sync.runtime_Semrelease", "sync/atomic.StoreUint32", "sync/atomic.LoadInt64", "sync/atomic.CompareAndSwapInt64"], unfollowed := true, recurses := true, apart := false, narrowed := true }
def PnmDecodesUptoSaid : Prop := pnmDecodesUptoRow.holds Tryz.pinned (OpenSpec.upto pnmDecodesSpec)

/-- 'tintypelaw15.PnmBudgets', WHERE WHAT IT READS IS OF BULK AT MOST 1048576: true; the input reads as it did. -/
def pnmBudgetsUptoRow : OpenClaim := { program := "ytgmgcfjllijhgaagreat", sum := "55590d5e00fbeb988f6df3fa726b2e8bc21f58f34b2b38da7975b25c88816e18", func := "tintype/tintypelaw15.PnmBudgets", spec := "pnmBudgets", inPlace := ["sync/atomic.LoadUint32", "(*internal/sync.Mutex).Lock", "internal/race.Disable", "sync/atomic.CompareAndSwapInt32", "internal/race.Enable", "internal/race.Acquire", "(*internal/sync.Mutex).lockSlow", "internal/sync.runtime_canSpin", "internal/sync.runtime_doSpin", "internal/sync.throw", "internal/sync.runtime_nanotime", "internal/sync.runtime_SemacquireMutex", "sync/atomic.AddInt32", "(*internal/sync.Mutex).Unlock", "internal/race.ReleaseMerge", "(*internal/sync.Mutex).unlockSlow", "internal/sync.fatal", "internal/sync.runtime_Semrelease", "sync/atomic.StoreUint32", "sync/atomic.LoadInt64", "sync/atomic.CompareAndSwapInt64"], unfollowed := true, recurses := true, apart := false, narrowed := true }
def PnmBudgetsUptoSaid : Prop := pnmBudgetsUptoRow.holds Tryz.pinned (OpenSpec.upto pnmBudgetsSpec)

end Rows
end Go.Proofs.YtgmgcfjllijhgaaGreat
