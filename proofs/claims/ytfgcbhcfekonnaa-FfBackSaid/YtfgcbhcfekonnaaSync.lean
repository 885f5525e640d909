/- sync/atomic and sync.Once in one goroutine: contracts at any address. sync.Once in one goroutine: Do the first time, and after; for any function that it is handed. sync.Once, Do of a method's value: the first time. -/
import Derived.Test.YtfgcbhcfekonnaaWords
import Derived.Defers
import Derived.Laws.Pointers
import Derived.Laws.LoneSync
import Derived.Laws.NewBlocks
import Derived.RegionTactic
import Derived.RegionCalls
import Derived.ChangeAlike
namespace Go.Proofs.Ytfgcbhcfekonnaa
open Go.RowKit
set_option linter.unusedVariables false

theorem sDisable (w : World) : (callFunc 123 #[]).run Try.prog w = .ok (.value (.tuple #[])) w := run_call_mark0 Try.func123 (by kernel_rfl) (by kernel_rfl) (by kernel_rfl) .disable (by kernel_rfl) w
theorem sEnable (w : World) : (callFunc 125 #[]).run Try.prog w = .ok (.value (.tuple #[])) w := run_call_mark0 Try.func125 (by kernel_rfl) (by kernel_rfl) (by kernel_rfl) .enable (by kernel_rfl) w
theorem sAcquire (a : Addr) (w : World) : (callFunc 126 #[.pointer (some a)]).run Try.prog w = .ok (.value (.tuple #[])) w := run_call_marked Try.func126 (by kernel_rfl) (by kernel_rfl) (by kernel_rfl) .acquire (by kernel_rfl) a w
theorem sReleaseMerge (a : Addr) (w : World) : (callFunc 128 #[.pointer (some a)]).run Try.prog w = .ok (.value (.tuple #[])) w := run_call_marked Try.func128 (by kernel_rfl) (by kernel_rfl) (by kernel_rfl) .releaseMerge (by kernel_rfl) a w
theorem sNot (x : Bool) (w : World) : (Op.unary .not (.bool x)).run Try.prog w = .ok (.bool (!x)) w := rfl

/-- (*atomic.Int64).Load -/
theorem load64 (a : Addr) (n : Int) (w : World) (hc : w.cell? a = some (.int .i64 n)) :
    Calls Try.prog 41 #[.pointer (some a)] w fun e w' => e = .returned (.int .i64 n) ∧ w = w' := by
  have hl := run_call_load (P := Try.prog) Try.func77 (by kernel_rfl) (by kernel_rfl) (by kernel_rfl) .i64 (by kernel_rfl) hc
  go_enter Try.func41, Try.ntmps41
  go_wp2
  go_ret
  exact ⟨rfl, rfl⟩

theorem load64_same (a : Addr) (n : Int) (w : World) (hc : w.cell? a = some (.int .i64 n)) :
    Calls Try.prog 41 #[.pointer (some a)] w fun e w' => e = .returned (.int .i64 n) ∧ w' = w :=
  (load64 a n w hc).mono fun _ _ ⟨h, k⟩ => ⟨h, k.symm⟩

/-- (*atomic.Int64).CompareAndSwap that hits -/
theorem cas64 (a : Addr) (x y : Int) (w : World) (hc : w.cell? a = some (.int .i64 x)) (hz : w.frozen? a = false) :
    Calls Try.prog 104 #[.pointer (some a), .int .i64 x, .int .i64 y] w fun e w' => e = .returned (.bool true) ∧ w.setCell a (.int .i64 y) = w' := by
  have hcas := run_call_cas_hit (P := Try.prog) Try.func116 (by kernel_rfl) (by kernel_rfl) (by kernel_rfl) .i64 (by kernel_rfl) (y := y) hc hz
  go_enter Try.func104, Try.ntmps104
  go_wp2
  go_ret
  exact ⟨rfl, rfl⟩

/-- (*atomic.Bool).Load -/
theorem loadB (a : Addr) (n : Int) (b : Bool) (w : World) (hb : (n != 0) = b) (hc : w.cell? a = some (.int .u32 n)) :
    Calls Try.prog 71 #[.pointer (some a)] w fun e w' => e = .returned (.bool b) ∧ w = w' := by
  have hl := run_call_load (P := Try.prog) Try.func97 (by kernel_rfl) (by kernel_rfl) (by kernel_rfl) .u32 (by kernel_rfl) hc
  subst hb
  go_enter Try.func71, Try.ntmps71
  go_wp2
  go_ret
  exact ⟨rfl, rfl⟩

/-- (*atomic.Bool).Store(true) -/
theorem storeB (a : Addr) (x : Value) (w : World) (hc : w.cell? a = some x) (hz : w.frozen? a = false) :
    Calls Try.prog 100 #[.pointer (some a), .bool true] w fun e w' => e = .returned (.tuple #[]) ∧ w.drew.setCell a (.int .u32 1) = w' := by
  have hc' : w.drew.cell? a = some x := hc
  have hz' : w.drew.frozen? a = false := hz
  have hst := run_call_store (P := Try.prog) Try.func114 (by kernel_rfl) (by kernel_rfl) (by kernel_rfl) (by kernel_rfl) (k := .u32) (y := 1) hc' hz'
  go_enter Try.func100, Try.ntmps100
  go_wp2
  go_region_calls
  all_goals (go_end0; exact ⟨rfl, rfl⟩)

theorem storeB_deferred (a : Addr) (x : Value) (u : FrameMode) (w : World) (hc : w.cell? a = some x) (hz : w.frozen? a = false) :
    CallsD Try.prog 100 #[.pointer (some a), .bool true] u w fun e u' w' => u' = u ∧ (e = .returned (.tuple #[]) ∧ w' = w.drew.setCell a (.int .u32 1)) := by
  have hc' : w.drew.cell? a = some x := hc
  have hz' : w.drew.frozen? a = false := hz
  have hst := run_call_store (P := Try.prog) Try.func114 (by kernel_rfl) (by kernel_rfl) (by kernel_rfl) (by kernel_rfl) (k := .u32) (y := 1) hc' hz'
  go_enter_d Try.func100, Try.ntmps100
  go_wp2
  go_region_calls
  all_goals (go_end0; exact ⟨rfl, rfl⟩)

set_option maxRecDepth 100000 in
theorem unlock_deferred (a : Addr) (u : FrameMode) (w : World) (hc : w.cell? a = some (.int .i32 1)) (hz : w.frozen? a = false) :
    CallsD Try.prog 120 #[.pointer (some a)] u w fun e u' w' => u' = u ∧ (e = .returned (.tuple #[]) ∧ w' = w.setCell a (.int .i32 0)) := by
  have hd := sDisable
  have he := sEnable
  have hr := sReleaseMerge
  have hadd := run_call_add (P := Try.prog) Try.func129 (by kernel_rfl) (by kernel_rfl) (by kernel_rfl) .i32 (by kernel_rfl) (y := -1) (s := 0) hc hz (by simp [go_sem]; rfl)
  have hcv := run_convert_to_unsafe (P := Try.prog) (src := 182) (dst := 186) Try.underlying182 Try.underlying186 (by kernel_rfl) hc
  go_enter_d Try.func120, Try.ntmps120
  go_wp2
  go_end0
  go_wp2
  go_end0
  exact ⟨rfl, rfl⟩

set_option maxRecDepth 100000 in
theorem lock_free (a : Addr) (w : World) (hc : w.cell? a = some (.int .i32 0)) (hz : w.frozen? a = false) :
    Calls Try.prog 119 #[.pointer (some a)] w fun e w' => e = .returned (.tuple #[]) ∧ w.setCell a (.int .i32 1) = w' := by
  have hd := sDisable
  have he := sEnable
  have ha := sAcquire
  have hcas := run_call_cas_hit (P := Try.prog) Try.func124 (by kernel_rfl) (by kernel_rfl) (by kernel_rfl) .i32 (by kernel_rfl) (y := 1) hc hz
  have hc' : (w.setCell a (.int .i32 1)).cell? a = some (.int .i32 1) := World.cell?_setCell_same w a _ hc
  have hcv := run_convert_to_unsafe (P := Try.prog) (src := 182) (dst := 186) Try.underlying182 Try.underlying186 (by kernel_rfl) hc'
  go_enter Try.func119, Try.ntmps119
  go_wp2
  first | go_end0 | (simp only [Exit.inBlock, Exit.then]; refine bodyPost_ret (results_none rfl _ _ _) rfl ?_) | refine bodyPost_ret (results_none rfl _ _ _) rfl ?_
  go_wp2
  go_end0
  exact ⟨rfl, rfl⟩
end Go.Proofs.Ytfgcbhcfekonnaa
namespace Go.Proofs.Ytfgcbhcfekonnaa
open Go.RowKit
set_option linter.unusedVariables false

/-- the world behind the first Do: what the function left, the mark laid, the lock let go -/
def OnceEnd (g o : Nat) (R : World → Prop) (w' : World) : Prop :=
  ∃ w2, R w2 ∧ w' = ((w2.drew.setCell ⟨g, o, none⟩ (.int .u32 1)).setCell ⟨g, o + 1, none⟩ (.int .i32 0))

set_option maxRecDepth 100000 in
set_option maxHeartbeats 1600000 in
theorem once_slow (g o F : Nat) (caps : Array Value) (w : World) (R : World → Prop) (hent : ∀ w, (callFunc F caps).run Try.prog w = .ok (.enter F caps) w)
    (h0 : w.cell? ⟨g, o, none⟩ = some (.int .u32 0)) (h1 : w.cell? ⟨g, o + 1, none⟩ = some (.int .i32 0)) (f1 : w.frozen? ⟨g, o + 1, none⟩ = false)
    (hF : Calls Try.prog F caps (w.setCell ⟨g, o + 1, none⟩ (.int .i32 1)) fun e w' => e = .returned (.tuple #[]) ∧ R w')
    (hR : ∀ w', R w' → (∃ x, w'.cell? ⟨g, o, none⟩ = some x) ∧ w'.frozen? ⟨g, o, none⟩ = false ∧ w'.cell? ⟨g, o + 1, none⟩ = some (.int .i32 1) ∧ w'.frozen? ⟨g, o + 1, none⟩ = false) :
    Calls Try.prog 113 #[.pointer (some ⟨g, o, none⟩), .func (.func F) #[] caps] w fun e w' => e = .returned (.tuple #[]) ∧ OnceEnd g o R w' := by
  have hl : (w.setCell ⟨g, o + 1, none⟩ (.int .i32 1)).cell? ⟨g, o, none⟩ = some (.int .u32 0) := (World.cell?_setCell_other _ ⟨g, o + 1, none⟩ ⟨g, o, none⟩ _ (by simp)).trans h0
  have hnot := sNot
  have HF := Lib.hid hF
  have HR := Lib.hid hR
  clear hF hR
  go_enter_defers Try.func113, Try.ntmps113
  go_wp2_with (first | (go_at_call 119; refine (lock_free ⟨g, o + 1, none⟩ _ h1 f1).mono ?_; rintro e w' ⟨rfl, rfl⟩) | (go_at_call 71; refine (loadB _ 0 false _ rfl hl).mono ?_; rintro e w' ⟨rfl, rfl⟩))
  refine HF.out.mono ?_
  rintro e w2 ⟨rfl, hr⟩
  obtain ⟨⟨x, p0⟩, q0, p1, q1⟩ := HR.out w2 hr
  go_wp2_with fail
  refine leaves_cons (f := 100) (args := #[.pointer (some ⟨g, o, none⟩), .bool true]) (by simp) (by simp [go_sem]) ?_
  refine (storeB_deferred ⟨g, o, none⟩ x .returning _ p0 q0).mono ?_
  rintro e u' w'' ⟨rfl, rfl, rfl⟩
  refine leaves_cons (f := 120) (args := #[.pointer (some ⟨g, o + 1, none⟩)]) (by simp [settle]) (by simp [go_sem]) ?_
  refine (unlock_deferred ⟨g, o + 1, none⟩ _ _ ?_ ?_).mono ?_
  · exact (World.cell?_setCell_other _ ⟨g, o, none⟩ ⟨g, o + 1, none⟩ _ (by simp)).trans p1
  · simpa using q1
  rintro e u' w'' ⟨rfl, rfl, rfl⟩
  simp [Leaves, settle, results, Try.results113]
  exact ⟨w2, hr, rfl⟩

/-- Do, the first time -/
theorem once_first (g o F : Nat) (caps : Array Value) (w : World) (R : World → Prop) (hent : ∀ w, (callFunc F caps).run Try.prog w = .ok (.enter F caps) w)
    (h0 : w.cell? ⟨g, o, none⟩ = some (.int .u32 0)) (h1 : w.cell? ⟨g, o + 1, none⟩ = some (.int .i32 0)) (f1 : w.frozen? ⟨g, o + 1, none⟩ = false)
    (hF : Calls Try.prog F caps (w.setCell ⟨g, o + 1, none⟩ (.int .i32 1)) fun e w' => e = .returned (.tuple #[]) ∧ R w')
    (hR : ∀ w', R w' → (∃ x, w'.cell? ⟨g, o, none⟩ = some x) ∧ w'.frozen? ⟨g, o, none⟩ = false ∧ w'.cell? ⟨g, o + 1, none⟩ = some (.int .i32 1) ∧ w'.frozen? ⟨g, o + 1, none⟩ = false) :
    Calls Try.prog 98 #[.pointer (some ⟨g, o, none⟩), .func (.func F) #[] caps] w fun e w' => e = .returned (.tuple #[]) ∧ OnceEnd g o R w' := by
  have hs := Lib.hid (once_slow g o F caps w R hent h0 h1 f1 hF hR)
  have hnot := sNot
  clear hF hR
  go_enter Try.func98, Try.ntmps98
  go_wp2_with (first | (go_at_call 71; refine (loadB _ 0 false _ rfl h0).mono ?_; rintro e w' ⟨rfl, rfl⟩) | (go_at_call 113; refine hs.out.mono ?_; rintro e w' ⟨rfl, hq⟩))
  go_end0
  exact ⟨rfl, hq⟩

/-- Do, done already -/
theorem once_done (a : Addr) (fv : Value) (w : World) (h0 : w.cell? a = some (.int .u32 1)) :
    Calls Try.prog 98 #[.pointer (some a), fv] w fun e w' => e = .returned (.tuple #[]) ∧ w = w' := by
  have hnot := sNot
  go_enter Try.func98, Try.ntmps98
  go_wp2_with (go_at_call 71; refine (loadB _ 1 true _ rfl h0).mono ?_; rintro e w' ⟨rfl, rfl⟩)
  go_end0
  exact ⟨rfl, rfl⟩
end Go.Proofs.Ytfgcbhcfekonnaa
namespace Go.Proofs.Ytfgcbhcfekonnaa
open Go.RowKit
set_option linter.unusedVariables false

set_option maxRecDepth 100000 in
set_option maxHeartbeats 1600000 in
theorem once_slow1 (g o F : Nat) (c : Value) (w : World) (R : World → Prop) (hent : ∀ w, (callFunc F #[c]).run Try.prog w = .ok (.enter F #[c]) w)
    (h0 : w.cell? ⟨g, o, none⟩ = some (.int .u32 0)) (h1 : w.cell? ⟨g, o + 1, none⟩ = some (.int .i32 0)) (f1 : w.frozen? ⟨g, o + 1, none⟩ = false)
    (hF : Calls Try.prog F #[c] (w.setCell ⟨g, o + 1, none⟩ (.int .i32 1)) fun e w' => e = .returned (.tuple #[]) ∧ R w')
    (hR : ∀ w', R w' → (∃ x, w'.cell? ⟨g, o, none⟩ = some x) ∧ w'.frozen? ⟨g, o, none⟩ = false ∧ w'.cell? ⟨g, o + 1, none⟩ = some (.int .i32 1) ∧ w'.frozen? ⟨g, o + 1, none⟩ = false) :
    Calls Try.prog 113 #[.pointer (some ⟨g, o, none⟩), .func (.func F) #[c] #[]] w fun e w' => e = .returned (.tuple #[]) ∧ OnceEnd g o R w' := by
  have hl : (w.setCell ⟨g, o + 1, none⟩ (.int .i32 1)).cell? ⟨g, o, none⟩ = some (.int .u32 0) := (World.cell?_setCell_other _ ⟨g, o + 1, none⟩ ⟨g, o, none⟩ _ (by simp)).trans h0
  have hnot := sNot
  have HF := Lib.hid hF
  have HR := Lib.hid hR
  clear hF hR
  go_enter_defers Try.func113, Try.ntmps113
  go_wp2_with (first | (go_at_call 119; refine (lock_free ⟨g, o + 1, none⟩ _ h1 f1).mono ?_; rintro e w' ⟨rfl, rfl⟩) | (go_at_call 71; refine (loadB _ 0 false _ rfl hl).mono ?_; rintro e w' ⟨rfl, rfl⟩))
  refine HF.out.mono ?_
  rintro e w2 ⟨rfl, hr⟩
  obtain ⟨⟨x, p0⟩, q0, p1, q1⟩ := HR.out w2 hr
  go_wp2_with fail
  refine leaves_cons (f := 100) (args := #[.pointer (some ⟨g, o, none⟩), .bool true]) (by simp) (by simp [go_sem]) ?_
  refine (storeB_deferred ⟨g, o, none⟩ x .returning _ p0 q0).mono ?_
  rintro e u' w'' ⟨rfl, rfl, rfl⟩
  refine leaves_cons (f := 120) (args := #[.pointer (some ⟨g, o + 1, none⟩)]) (by simp [settle]) (by simp [go_sem]) ?_
  refine (unlock_deferred ⟨g, o + 1, none⟩ _ _ ?_ ?_).mono ?_
  · exact (World.cell?_setCell_other _ ⟨g, o, none⟩ ⟨g, o + 1, none⟩ _ (by simp)).trans p1
  · simpa using q1
  rintro e u' w'' ⟨rfl, rfl, rfl⟩
  simp [Leaves, settle, results, Try.results113]
  exact ⟨w2, hr, rfl⟩

/-- Do, the first time -/
theorem once_first1 (g o F : Nat) (c : Value) (w : World) (R : World → Prop) (hent : ∀ w, (callFunc F #[c]).run Try.prog w = .ok (.enter F #[c]) w)
    (h0 : w.cell? ⟨g, o, none⟩ = some (.int .u32 0)) (h1 : w.cell? ⟨g, o + 1, none⟩ = some (.int .i32 0)) (f1 : w.frozen? ⟨g, o + 1, none⟩ = false)
    (hF : Calls Try.prog F #[c] (w.setCell ⟨g, o + 1, none⟩ (.int .i32 1)) fun e w' => e = .returned (.tuple #[]) ∧ R w')
    (hR : ∀ w', R w' → (∃ x, w'.cell? ⟨g, o, none⟩ = some x) ∧ w'.frozen? ⟨g, o, none⟩ = false ∧ w'.cell? ⟨g, o + 1, none⟩ = some (.int .i32 1) ∧ w'.frozen? ⟨g, o + 1, none⟩ = false) :
    Calls Try.prog 98 #[.pointer (some ⟨g, o, none⟩), .func (.func F) #[c] #[]] w fun e w' => e = .returned (.tuple #[]) ∧ OnceEnd g o R w' := by
  have hs := Lib.hid (once_slow1 g o F c w R hent h0 h1 f1 hF hR)
  have hnot := sNot
  clear hF hR
  go_enter Try.func98, Try.ntmps98
  go_wp2_with (first | (go_at_call 71; refine (loadB _ 0 false _ rfl h0).mono ?_; rintro e w' ⟨rfl, rfl⟩) | (go_at_call 113; refine hs.out.mono ?_; rintro e w' ⟨rfl, hq⟩))
  go_end0
  exact ⟨rfl, hq⟩

end Go.Proofs.Ytfgcbhcfekonnaa
