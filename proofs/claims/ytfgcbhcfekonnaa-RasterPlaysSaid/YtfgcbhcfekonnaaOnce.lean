/- sync.Once in one goroutine: Do the first time, and after; for any function that it is handed. -/
import Derived.Test.YtfgcbhcfekonnaaSync
namespace Go.Proofs.Ytfgcbhcfekonnaa
open Go.RowKit
set_option linter.unusedVariables false

/-- the world behind the first Do: what the function left, the mark laid, the lock let go -/
def OnceEnd (g o : Nat) (R : World → Prop) (w' : World) : Prop :=
  ∃ w2, R w2 ∧ w' = ((w2.drew.setCell ⟨g, o, none⟩ (.int .u32 1)).setCell ⟨g, o + 1, none⟩ (.int .i32 0))

set_option maxRecDepth 100000 in
set_option maxHeartbeats 1600000 in
theorem once_slow (g o F : Nat) (caps : Array Value) (w : World) (R : World → Prop) (hent : ∀ w, (callFunc F caps).run Try.prog w = .ok (.enter F caps) w)
    (h0 : w.cell? ⟨g, o, none⟩ = some (.int .u32 0)) (h1 : w.cell? ⟨g, o + 1, none⟩ = some (.int .i32 0)) (f1 : w.frozen? ⟨g, o + 1, none⟩ = false)
    (hF : Calls Try.prog F caps (w.setCell ⟨g, o + 1, none⟩ (.int .i32 1)) fun e w' => e = .returned (.tuple #[]) ∧ R w')
    (hR : ∀ w', R w' → (∃ x, w'.cell? ⟨g, o, none⟩ = some x) ∧ w'.frozen? ⟨g, o, none⟩ = false ∧ w'.cell? ⟨g, o + 1, none⟩ = some (.int .i32 1) ∧ w'.frozen? ⟨g, o + 1, none⟩ = false) :
    Calls Try.prog 113 #[.pointer (some ⟨g, o, none⟩), .func (.func F) #[] caps] w fun e w' => e = .returned (.tuple #[]) ∧ OnceEnd g o R w' := by
  have hl : (w.setCell ⟨g, o + 1, none⟩ (.int .i32 1)).cell? ⟨g, o, none⟩ = some (.int .u32 0) := (World.cell?_setCell_other _ ⟨g, o + 1, none⟩ ⟨g, o, none⟩ _ (by simp)).trans h0
  have hnot := sNot
  have HF := Lib.hid hF
  have HR := Lib.hid hR
  clear hF hR
  go_enter_defers Try.func113, Try.ntmps113
  go_wp2_with (first | (go_at_call 119; refine (lock_free ⟨g, o + 1, none⟩ _ h1 f1).mono ?_; rintro e w' ⟨rfl, rfl⟩) | (go_at_call 71; refine (loadB _ 0 false _ rfl hl).mono ?_; rintro e w' ⟨rfl, rfl⟩))
  refine HF.out.mono ?_
  rintro e w2 ⟨rfl, hr⟩
  obtain ⟨⟨x, p0⟩, q0, p1, q1⟩ := HR.out w2 hr
  go_wp2_with fail
  refine leaves_cons (f := 100) (args := #[.pointer (some ⟨g, o, none⟩), .bool true]) (by simp) (by simp [go_sem]) ?_
  refine (storeB_deferred ⟨g, o, none⟩ x .returning _ p0 q0).mono ?_
  rintro e u' w'' ⟨rfl, rfl, rfl⟩
  refine leaves_cons (f := 120) (args := #[.pointer (some ⟨g, o + 1, none⟩)]) (by simp [settle]) (by simp [go_sem]) ?_
  refine (unlock_deferred ⟨g, o + 1, none⟩ _ _ ?_ ?_).mono ?_
  · exact (World.cell?_setCell_other _ ⟨g, o, none⟩ ⟨g, o + 1, none⟩ _ (by simp)).trans p1
  · simpa using q1
  rintro e u' w'' ⟨rfl, rfl, rfl⟩
  simp [Leaves, settle, results, Try.results113]
  exact ⟨w2, hr, rfl⟩

/-- Do, the first time -/
theorem once_first (g o F : Nat) (caps : Array Value) (w : World) (R : World → Prop) (hent : ∀ w, (callFunc F caps).run Try.prog w = .ok (.enter F caps) w)
    (h0 : w.cell? ⟨g, o, none⟩ = some (.int .u32 0)) (h1 : w.cell? ⟨g, o + 1, none⟩ = some (.int .i32 0)) (f1 : w.frozen? ⟨g, o + 1, none⟩ = false)
    (hF : Calls Try.prog F caps (w.setCell ⟨g, o + 1, none⟩ (.int .i32 1)) fun e w' => e = .returned (.tuple #[]) ∧ R w')
    (hR : ∀ w', R w' → (∃ x, w'.cell? ⟨g, o, none⟩ = some x) ∧ w'.frozen? ⟨g, o, none⟩ = false ∧ w'.cell? ⟨g, o + 1, none⟩ = some (.int .i32 1) ∧ w'.frozen? ⟨g, o + 1, none⟩ = false) :
    Calls Try.prog 98 #[.pointer (some ⟨g, o, none⟩), .func (.func F) #[] caps] w fun e w' => e = .returned (.tuple #[]) ∧ OnceEnd g o R w' := by
  have hs := Lib.hid (once_slow g o F caps w R hent h0 h1 f1 hF hR)
  have hnot := sNot
  clear hF hR
  go_enter Try.func98, Try.ntmps98
  go_wp2_with (first | (go_at_call 71; refine (loadB _ 0 false _ rfl h0).mono ?_; rintro e w' ⟨rfl, rfl⟩) | (go_at_call 113; refine hs.out.mono ?_; rintro e w' ⟨rfl, hq⟩))
  go_end0
  exact ⟨rfl, hq⟩

/-- Do, done already -/
theorem once_done (a : Addr) (fv : Value) (w : World) (h0 : w.cell? a = some (.int .u32 1)) :
    Calls Try.prog 98 #[.pointer (some a), fv] w fun e w' => e = .returned (.tuple #[]) ∧ w = w' := by
  have hnot := sNot
  go_enter Try.func98, Try.ntmps98
  go_wp2_with (go_at_call 71; refine (loadB _ 1 true _ rfl h0).mono ?_; rintro e w' ⟨rfl, rfl⟩)
  go_end0
  exact ⟨rfl, rfl⟩
end Go.Proofs.Ytfgcbhcfekonnaa
