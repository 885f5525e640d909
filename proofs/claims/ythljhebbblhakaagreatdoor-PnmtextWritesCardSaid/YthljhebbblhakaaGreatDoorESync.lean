/- sync/atomic and sync.Once in one goroutine: contracts at any address. sync.Once in one goroutine: Do the first time, and after; for any function that it is handed. sync.Once, Do of a method's value: the first time. A block that is known whole; what a step leaves of it; only one block has turned. Plain: a ledger's counts, and its calls. The ledger's methods by their contracts: the block of a ledger is its counts. The ledger's New, Sides, First; awake of chapter 2. The ledger's calls from a known state; awake of chapter 2. Only some blocks, and what is new, have turned. -/
import Derived.Test.YthljhebbblhakaaGreatDoorEWords
import Derived.Defers
import Derived.Laws.Pointers
import Derived.Laws.LoneSync
import Derived.Laws.NewBlocks
import Derived.RegionTactic
import Derived.RegionCalls
import Derived.ChangeAlike
import Derived.Laws.Rows
import Derived.StillTailTactics
namespace Go.Proofs.YthljhebbblhakaaGreatDoor
open Go.RowKit
set_option linter.unusedVariables false

theorem sDisable (w : World) : (callFunc 139 #[]).run Tryz.prog w = .ok (.value (.tuple #[])) w := run_call_mark0 Tryz.func139 (by kernel_rfl) (by kernel_rfl) (by kernel_rfl) .disable (by kernel_rfl) w
theorem sEnable (w : World) : (callFunc 141 #[]).run Tryz.prog w = .ok (.value (.tuple #[])) w := run_call_mark0 Tryz.func141 (by kernel_rfl) (by kernel_rfl) (by kernel_rfl) .enable (by kernel_rfl) w
theorem sAcquire (a : Addr) (w : World) : (callFunc 142 #[.pointer (some a)]).run Tryz.prog w = .ok (.value (.tuple #[])) w := run_call_marked Tryz.func142 (by kernel_rfl) (by kernel_rfl) (by kernel_rfl) .acquire (by kernel_rfl) a w
theorem sReleaseMerge (a : Addr) (w : World) : (callFunc 144 #[.pointer (some a)]).run Tryz.prog w = .ok (.value (.tuple #[])) w := run_call_marked Tryz.func144 (by kernel_rfl) (by kernel_rfl) (by kernel_rfl) .releaseMerge (by kernel_rfl) a w
theorem sNot (x : Bool) (w : World) : (Op.unary .not (.bool x)).run Tryz.prog w = .ok (.bool (!x)) w := rfl

/-- (*atomic.Int64).Load -/
theorem load64 (a : Addr) (n : Int) (w : World) (hc : w.cell? a = some (.int .i64 n)) :
    Calls Tryz.prog 105 #[.pointer (some a)] w fun e w' => e = .returned (.int .i64 n) ∧ w = w' := by
  have hl := run_call_load (P := Tryz.prog) Tryz.func128 (by kernel_rfl) (by kernel_rfl) (by kernel_rfl) .i64 (by kernel_rfl) hc
  go_enter Tryz.func105, Tryz.ntmps105
  go_wp2
  go_ret
  exact ⟨rfl, rfl⟩

theorem load64_same (a : Addr) (n : Int) (w : World) (hc : w.cell? a = some (.int .i64 n)) :
    Calls Tryz.prog 105 #[.pointer (some a)] w fun e w' => e = .returned (.int .i64 n) ∧ w' = w :=
  (load64 a n w hc).mono fun _ _ ⟨h, k⟩ => ⟨h, k.symm⟩

/-- (*atomic.Int64).CompareAndSwap that hits -/
theorem cas64 (a : Addr) (x y : Int) (w : World) (hc : w.cell? a = some (.int .i64 x)) (hz : w.frozen? a = false) :
    Calls Tryz.prog 106 #[.pointer (some a), .int .i64 x, .int .i64 y] w fun e w' => e = .returned (.bool true) ∧ w.setCell a (.int .i64 y) = w' := by
  have hcas := run_call_cas_hit (P := Tryz.prog) Tryz.func129 (by kernel_rfl) (by kernel_rfl) (by kernel_rfl) .i64 (by kernel_rfl) (y := y) hc hz
  go_enter Tryz.func106, Tryz.ntmps106
  go_wp2
  go_ret
  exact ⟨rfl, rfl⟩

/-- (*atomic.Bool).Load -/
theorem loadB (a : Addr) (n : Int) (b : Bool) (w : World) (hb : (n != 0) = b) (hc : w.cell? a = some (.int .u32 n)) :
    Calls Tryz.prog 74 #[.pointer (some a)] w fun e w' => e = .returned (.bool b) ∧ w = w' := by
  have hl := run_call_load (P := Tryz.prog) Tryz.func98 (by kernel_rfl) (by kernel_rfl) (by kernel_rfl) .u32 (by kernel_rfl) hc
  subst hb
  go_enter Tryz.func74, Tryz.ntmps74
  go_wp2
  go_ret
  exact ⟨rfl, rfl⟩

/-- (*atomic.Bool).Store(true) -/
theorem storeB (a : Addr) (x : Value) (w : World) (hc : w.cell? a = some x) (hz : w.frozen? a = false) :
    Calls Tryz.prog 101 #[.pointer (some a), .bool true] w fun e w' => e = .returned (.tuple #[]) ∧ w.drew.setCell a (.int .u32 1) = w' := by
  have hc' : w.drew.cell? a = some x := hc
  have hz' : w.drew.frozen? a = false := hz
  have hst := run_call_store (P := Tryz.prog) Tryz.func126 (by kernel_rfl) (by kernel_rfl) (by kernel_rfl) (by kernel_rfl) (k := .u32) (y := 1) hc' hz'
  go_enter Tryz.func101, Tryz.ntmps101
  go_wp2
  go_region_calls
  all_goals (go_end0; exact ⟨rfl, rfl⟩)

theorem storeB_deferred (a : Addr) (x : Value) (u : FrameMode) (w : World) (hc : w.cell? a = some x) (hz : w.frozen? a = false) :
    CallsD Tryz.prog 101 #[.pointer (some a), .bool true] u w fun e u' w' => u' = u ∧ (e = .returned (.tuple #[]) ∧ w' = w.drew.setCell a (.int .u32 1)) := by
  have hc' : w.drew.cell? a = some x := hc
  have hz' : w.drew.frozen? a = false := hz
  have hst := run_call_store (P := Tryz.prog) Tryz.func126 (by kernel_rfl) (by kernel_rfl) (by kernel_rfl) (by kernel_rfl) (k := .u32) (y := 1) hc' hz'
  go_enter_d Tryz.func101, Tryz.ntmps101
  go_wp2
  go_region_calls
  all_goals (go_end0; exact ⟨rfl, rfl⟩)

set_option maxRecDepth 100000 in
theorem unlock_deferred (a : Addr) (u : FrameMode) (w : World) (hc : w.cell? a = some (.int .i32 1)) (hz : w.frozen? a = false) :
    CallsD Tryz.prog 136 #[.pointer (some a)] u w fun e u' w' => u' = u ∧ (e = .returned (.tuple #[]) ∧ w' = w.setCell a (.int .i32 0)) := by
  have hd := sDisable
  have he := sEnable
  have hr := sReleaseMerge
  have hadd := run_call_add (P := Tryz.prog) Tryz.func145 (by kernel_rfl) (by kernel_rfl) (by kernel_rfl) .i32 (by kernel_rfl) (y := -1) (s := 0) hc hz (by simp [go_sem]; rfl)
  have hcv := run_convert_to_unsafe (P := Tryz.prog) (src := 196) (dst := 200) Tryz.underlying196 Tryz.underlying200 (by kernel_rfl) hc
  go_enter_d Tryz.func136, Tryz.ntmps136
  go_wp2
  go_end0
  go_wp2
  go_end0
  exact ⟨rfl, rfl⟩

set_option maxRecDepth 100000 in
theorem lock_free (a : Addr) (w : World) (hc : w.cell? a = some (.int .i32 0)) (hz : w.frozen? a = false) :
    Calls Tryz.prog 135 #[.pointer (some a)] w fun e w' => e = .returned (.tuple #[]) ∧ w.setCell a (.int .i32 1) = w' := by
  have hd := sDisable
  have he := sEnable
  have ha := sAcquire
  have hcas := run_call_cas_hit (P := Tryz.prog) Tryz.func140 (by kernel_rfl) (by kernel_rfl) (by kernel_rfl) .i32 (by kernel_rfl) (y := 1) hc hz
  have hc' : (w.setCell a (.int .i32 1)).cell? a = some (.int .i32 1) := World.cell?_setCell_same w a _ hc
  have hcv := run_convert_to_unsafe (P := Tryz.prog) (src := 196) (dst := 200) Tryz.underlying196 Tryz.underlying200 (by kernel_rfl) hc'
  go_enter Tryz.func135, Tryz.ntmps135
  go_wp2
  first | go_end0 | (simp only [Exit.inBlock, Exit.then]; refine bodyPost_ret (results_none rfl _ _ _) rfl ?_) | refine bodyPost_ret (results_none rfl _ _ _) rfl ?_
  go_wp2
  go_end0
  exact ⟨rfl, rfl⟩
end Go.Proofs.YthljhebbblhakaaGreatDoor
namespace Go.Proofs.YthljhebbblhakaaGreatDoor
open Go.RowKit
set_option linter.unusedVariables false

/-- the world behind the first Do: what the function left, the mark laid, the lock let go -/
def OnceEnd (g o : Nat) (R : World → Prop) (w' : World) : Prop :=
  ∃ w2, R w2 ∧ w' = ((w2.drew.setCell ⟨g, o, none⟩ (.int .u32 1)).setCell ⟨g, o + 1, none⟩ (.int .i32 0))

set_option maxRecDepth 100000 in
set_option maxHeartbeats 1600000 in
theorem once_slow (g o F : Nat) (caps : Array Value) (w : World) (R : World → Prop) (hent : ∀ w, (callFunc F caps).run Tryz.prog w = .ok (.enter F caps) w)
    (h0 : w.cell? ⟨g, o, none⟩ = some (.int .u32 0)) (h1 : w.cell? ⟨g, o + 1, none⟩ = some (.int .i32 0)) (f1 : w.frozen? ⟨g, o + 1, none⟩ = false)
    (hF : Calls Tryz.prog F caps (w.setCell ⟨g, o + 1, none⟩ (.int .i32 1)) fun e w' => e = .returned (.tuple #[]) ∧ R w')
    (hR : ∀ w', R w' → (∃ x, w'.cell? ⟨g, o, none⟩ = some x) ∧ w'.frozen? ⟨g, o, none⟩ = false ∧ w'.cell? ⟨g, o + 1, none⟩ = some (.int .i32 1) ∧ w'.frozen? ⟨g, o + 1, none⟩ = false) :
    Calls Tryz.prog 125 #[.pointer (some ⟨g, o, none⟩), .func (.func F) #[] caps] w fun e w' => e = .returned (.tuple #[]) ∧ OnceEnd g o R w' := by
  have hl : (w.setCell ⟨g, o + 1, none⟩ (.int .i32 1)).cell? ⟨g, o, none⟩ = some (.int .u32 0) := (World.cell?_setCell_other _ ⟨g, o + 1, none⟩ ⟨g, o, none⟩ _ (by simp)).trans h0
  have hnot := sNot
  have HF := Lib.hid hF
  have HR := Lib.hid hR
  clear hF hR
  go_enter_defers Tryz.func125, Tryz.ntmps125
  go_wp2_with (first | (go_at_call 135; refine (lock_free ⟨g, o + 1, none⟩ _ h1 f1).mono ?_; rintro e w' ⟨rfl, rfl⟩) | (go_at_call 74; refine (loadB _ 0 false _ rfl hl).mono ?_; rintro e w' ⟨rfl, rfl⟩))
  refine HF.out.mono ?_
  rintro e w2 ⟨rfl, hr⟩
  obtain ⟨⟨x, p0⟩, q0, p1, q1⟩ := HR.out w2 hr
  go_wp2_with fail
  refine leaves_cons (f := 101) (args := #[.pointer (some ⟨g, o, none⟩), .bool true]) (by simp) (by simp [go_sem]) ?_
  refine (storeB_deferred ⟨g, o, none⟩ x .returning _ p0 q0).mono ?_
  rintro e u' w'' ⟨rfl, rfl, rfl⟩
  refine leaves_cons (f := 136) (args := #[.pointer (some ⟨g, o + 1, none⟩)]) (by simp [settle]) (by simp [go_sem]) ?_
  refine (unlock_deferred ⟨g, o + 1, none⟩ _ _ ?_ ?_).mono ?_
  · exact (World.cell?_setCell_other _ ⟨g, o, none⟩ ⟨g, o + 1, none⟩ _ (by simp)).trans p1
  · simpa using q1
  rintro e u' w'' ⟨rfl, rfl, rfl⟩
  simp [Leaves, settle, results, Tryz.results125]
  exact ⟨w2, hr, rfl⟩

/-- Do, the first time -/
theorem once_first (g o F : Nat) (caps : Array Value) (w : World) (R : World → Prop) (hent : ∀ w, (callFunc F caps).run Tryz.prog w = .ok (.enter F caps) w)
    (h0 : w.cell? ⟨g, o, none⟩ = some (.int .u32 0)) (h1 : w.cell? ⟨g, o + 1, none⟩ = some (.int .i32 0)) (f1 : w.frozen? ⟨g, o + 1, none⟩ = false)
    (hF : Calls Tryz.prog F caps (w.setCell ⟨g, o + 1, none⟩ (.int .i32 1)) fun e w' => e = .returned (.tuple #[]) ∧ R w')
    (hR : ∀ w', R w' → (∃ x, w'.cell? ⟨g, o, none⟩ = some x) ∧ w'.frozen? ⟨g, o, none⟩ = false ∧ w'.cell? ⟨g, o + 1, none⟩ = some (.int .i32 1) ∧ w'.frozen? ⟨g, o + 1, none⟩ = false) :
    Calls Tryz.prog 99 #[.pointer (some ⟨g, o, none⟩), .func (.func F) #[] caps] w fun e w' => e = .returned (.tuple #[]) ∧ OnceEnd g o R w' := by
  have hs := Lib.hid (once_slow g o F caps w R hent h0 h1 f1 hF hR)
  have hnot := sNot
  clear hF hR
  go_enter Tryz.func99, Tryz.ntmps99
  go_wp2_with (first | (go_at_call 74; refine (loadB _ 0 false _ rfl h0).mono ?_; rintro e w' ⟨rfl, rfl⟩) | (go_at_call 125; refine hs.out.mono ?_; rintro e w' ⟨rfl, hq⟩))
  go_end0
  exact ⟨rfl, hq⟩

/-- Do, done already -/
theorem once_done (a : Addr) (fv : Value) (w : World) (h0 : w.cell? a = some (.int .u32 1)) :
    Calls Tryz.prog 99 #[.pointer (some a), fv] w fun e w' => e = .returned (.tuple #[]) ∧ w = w' := by
  have hnot := sNot
  go_enter Tryz.func99, Tryz.ntmps99
  go_wp2_with (go_at_call 74; refine (loadB _ 1 true _ rfl h0).mono ?_; rintro e w' ⟨rfl, rfl⟩)
  go_end0
  exact ⟨rfl, rfl⟩
end Go.Proofs.YthljhebbblhakaaGreatDoor
namespace Go.Proofs.YthljhebbblhakaaGreatDoor
open Go.RowKit
set_option linter.unusedVariables false

set_option maxRecDepth 100000 in
set_option maxHeartbeats 1600000 in
theorem once_slow1 (g o F : Nat) (c : Value) (w : World) (R : World → Prop) (hent : ∀ w, (callFunc F #[c]).run Tryz.prog w = .ok (.enter F #[c]) w)
    (h0 : w.cell? ⟨g, o, none⟩ = some (.int .u32 0)) (h1 : w.cell? ⟨g, o + 1, none⟩ = some (.int .i32 0)) (f1 : w.frozen? ⟨g, o + 1, none⟩ = false)
    (hF : Calls Tryz.prog F #[c] (w.setCell ⟨g, o + 1, none⟩ (.int .i32 1)) fun e w' => e = .returned (.tuple #[]) ∧ R w')
    (hR : ∀ w', R w' → (∃ x, w'.cell? ⟨g, o, none⟩ = some x) ∧ w'.frozen? ⟨g, o, none⟩ = false ∧ w'.cell? ⟨g, o + 1, none⟩ = some (.int .i32 1) ∧ w'.frozen? ⟨g, o + 1, none⟩ = false) :
    Calls Tryz.prog 125 #[.pointer (some ⟨g, o, none⟩), .func (.func F) #[c] #[]] w fun e w' => e = .returned (.tuple #[]) ∧ OnceEnd g o R w' := by
  have hl : (w.setCell ⟨g, o + 1, none⟩ (.int .i32 1)).cell? ⟨g, o, none⟩ = some (.int .u32 0) := (World.cell?_setCell_other _ ⟨g, o + 1, none⟩ ⟨g, o, none⟩ _ (by simp)).trans h0
  have hnot := sNot
  have HF := Lib.hid hF
  have HR := Lib.hid hR
  clear hF hR
  go_enter_defers Tryz.func125, Tryz.ntmps125
  go_wp2_with (first | (go_at_call 135; refine (lock_free ⟨g, o + 1, none⟩ _ h1 f1).mono ?_; rintro e w' ⟨rfl, rfl⟩) | (go_at_call 74; refine (loadB _ 0 false _ rfl hl).mono ?_; rintro e w' ⟨rfl, rfl⟩))
  refine HF.out.mono ?_
  rintro e w2 ⟨rfl, hr⟩
  obtain ⟨⟨x, p0⟩, q0, p1, q1⟩ := HR.out w2 hr
  go_wp2_with fail
  refine leaves_cons (f := 101) (args := #[.pointer (some ⟨g, o, none⟩), .bool true]) (by simp) (by simp [go_sem]) ?_
  refine (storeB_deferred ⟨g, o, none⟩ x .returning _ p0 q0).mono ?_
  rintro e u' w'' ⟨rfl, rfl, rfl⟩
  refine leaves_cons (f := 136) (args := #[.pointer (some ⟨g, o + 1, none⟩)]) (by simp [settle]) (by simp [go_sem]) ?_
  refine (unlock_deferred ⟨g, o + 1, none⟩ _ _ ?_ ?_).mono ?_
  · exact (World.cell?_setCell_other _ ⟨g, o, none⟩ ⟨g, o + 1, none⟩ _ (by simp)).trans p1
  · simpa using q1
  rintro e u' w'' ⟨rfl, rfl, rfl⟩
  simp [Leaves, settle, results, Tryz.results125]
  exact ⟨w2, hr, rfl⟩

/-- Do, the first time -/
theorem once_first1 (g o F : Nat) (c : Value) (w : World) (R : World → Prop) (hent : ∀ w, (callFunc F #[c]).run Tryz.prog w = .ok (.enter F #[c]) w)
    (h0 : w.cell? ⟨g, o, none⟩ = some (.int .u32 0)) (h1 : w.cell? ⟨g, o + 1, none⟩ = some (.int .i32 0)) (f1 : w.frozen? ⟨g, o + 1, none⟩ = false)
    (hF : Calls Tryz.prog F #[c] (w.setCell ⟨g, o + 1, none⟩ (.int .i32 1)) fun e w' => e = .returned (.tuple #[]) ∧ R w')
    (hR : ∀ w', R w' → (∃ x, w'.cell? ⟨g, o, none⟩ = some x) ∧ w'.frozen? ⟨g, o, none⟩ = false ∧ w'.cell? ⟨g, o + 1, none⟩ = some (.int .i32 1) ∧ w'.frozen? ⟨g, o + 1, none⟩ = false) :
    Calls Tryz.prog 99 #[.pointer (some ⟨g, o, none⟩), .func (.func F) #[c] #[]] w fun e w' => e = .returned (.tuple #[]) ∧ OnceEnd g o R w' := by
  have hs := Lib.hid (once_slow1 g o F c w R hent h0 h1 f1 hF hR)
  have hnot := sNot
  clear hF hR
  go_enter Tryz.func99, Tryz.ntmps99
  go_wp2_with (first | (go_at_call 74; refine (loadB _ 0 false _ rfl h0).mono ?_; rintro e w' ⟨rfl, rfl⟩) | (go_at_call 125; refine hs.out.mono ?_; rintro e w' ⟨rfl, hq⟩))
  go_end0
  exact ⟨rfl, hq⟩

end Go.Proofs.YthljhebbblhakaaGreatDoor
namespace Go.Proofs.YthljhebbblhakaaGreatDoor
open Go.RowKit
set_option linter.unusedVariables false

theorem addr_ne {b c i j : Nat} (h : b ≠ c) : (⟨b, i, none⟩ : Addr) ≠ ⟨c, j, none⟩ := fun e => h (congrArg Addr.block e)
/-- block g is just the cells cs of element type t, none frozen -/
def Blk (w : World) (g : Nat) (t : TypeId) (cs : Array Value) : Prop := w.heap[g]? = some (.cells cs t (0, 0))

section
variable {w w' a : World} {g : Nat} {t : TypeId} {cs : Array Value}
theorem Blk.lt (h : Blk w g t cs) : g < w.heap.size := by
  rcases Nat.lt_or_ge g w.heap.size with hlt | hge
  · exact hlt
  · unfold Blk at h; rw [Array.getElem?_eq_none hge] at h; cases h
theorem Blk.cell (h : Blk w g t cs) (i : Nat) : w.cell? ⟨g, i, none⟩ = cs[i]? := cell_of_row w g i cs t (0, 0) h
theorem Blk.frozen (h : Blk w g t cs) (i : Nat) : w.frozen? ⟨g, i, none⟩ = false := by
  unfold Blk at h
  simp [World.frozen?, h]
theorem Blk.new (w : World) (t : TypeId) (cs : Array Value) : Blk (w.alloc (.cells cs t)) w.heap.size t cs := heap_alloc_new w _
theorem Blk.new_at {n : Nat} (w : World) (t : TypeId) (cs : Array Value) (h : n = w.heap.size) : Blk (w.alloc (.cells cs t)) n t cs := by subst h; exact Blk.new w t cs
theorem Blk.drew (h : Blk w g t cs) : Blk w.drew g t cs := h
theorem Blk.drewN (h : Blk w g t cs) (n : Nat) : Blk (w.drewN n) g t cs := h
theorem Blk.alloc (h : Blk w g t cs) (o : Obj) : Blk (w.alloc o) g t cs := (Below.heap_alloc w o g h.lt).trans h
theorem Blk.set_ (h : Blk w g t cs) (i : Nat) (u : Value) : Blk (w.setCell ⟨g, i, none⟩ u) g t (cs.setIfInBounds i u) := by
  unfold Blk at h ⊢
  simp [World.setCell, Array.getElem?_modify, h]
theorem Blk.far (h : Blk w g t cs) {p : Addr} (hp : g ≠ p.block) (u : Value) : Blk (w.setCell p u) g t cs := (Below.heap_setCell w p u g hp).trans h
theorem Blk.below {B : Nat} (h : Blk w g t cs) (hb : Below B w w') (hg : g < B) : Blk w' g t cs := (hb.block g hg).trans h
theorem Blk.grown {row : Option Nat} (h : Blk w g t cs) (hb : w.grownBy w' row) (hg : some g ≠ row) : Blk w' g t cs := (hb.block g h.lt hg).trans h
theorem Blk.eq_ {cs' : Array Value} (h : Blk w g t cs) (e : cs = cs') : Blk w g t cs' := e ▸ h
theorem Blk.ne_ {g' : Nat} {t' : TypeId} {cs' : Array Value} (h : Blk w g t cs) (h' : Blk w g' t' cs') (hne : t ≠ t') : g ≠ g' := by
  rintro rfl
  unfold Blk at h h'
  rw [h] at h'
  injection h' with h'
  injection h' with _ ht
  exact hne ht

/-- only block g, and what is new, has turned -/
theorem only_refl (w : World) (row : Option Nat) : w.grownBy w row := ⟨rfl, rfl, rfl, Nat.le_refl _, fun _ _ _ => rfl⟩
theorem only_drew {row : Option Nat} (h : a.grownBy w row) : a.grownBy w.drew row := ⟨h.os, h.tape, h.output, h.size, h.block⟩
theorem only_drewN {row : Option Nat} (h : a.grownBy w row) (n : Nat) : a.grownBy (w.drewN n) row := ⟨h.os, h.tape, h.output, h.size, h.block⟩
theorem only_alloc {row : Option Nat} (h : a.grownBy w row) (o : Obj) : a.grownBy (w.alloc o) row :=
  ⟨h.os, h.tape, h.output, Nat.le_trans h.size (by simp), fun i hi hne => (Below.heap_alloc w o i (Nat.lt_of_lt_of_le hi h.size)).trans (h.block i hi hne)⟩
theorem only_set (h : a.grownBy w (some g)) (i : Nat) (u : Value) : a.grownBy (w.setCell ⟨g, i, none⟩ u) (some g) :=
  ⟨h.os, h.tape, h.output, by simpa [World.setCell] using h.size, fun i hi hne => (Below.heap_setCell w _ u i (by rintro rfl; exact hne rfl)).trans (h.block i hi hne)⟩
theorem only_trans {row : Option Nat} {b c : World} (h : a.grownBy b row) (k : b.grownBy c row) : a.grownBy c row :=
  ⟨k.os.trans h.os, k.tape.trans h.tape, k.output.trans h.output, Nat.le_trans h.size k.size, fun i hi hne => (k.block i (Nat.lt_of_lt_of_le hi h.size) hne).trans (h.block i hi hne)⟩
end
end Go.Proofs.YthljhebbblhakaaGreatDoor
namespace Go.Proofs.YthljhebbblhakaaGreatDoor
set_option linter.unusedVariables false

structure Led where
  W : Int
  H : Int
  B : Int
  S : Int
  bytes : Int
  peak : Int
  steps : Int
  reason : Int
  asked : Int
def nought (v : Int) : Int := if v < 0 then 0 else v
def Led.new (w h b s : Int) : Led := ⟨nought w, nought h, nought b, nought s, 0, 0, 0, 0, 0⟩
def Led.refused (x : Led) (r a : Int) : Led := { x with reason := r, asked := a }
def Led.sides (x : Led) (w h : Int) : Led × Bool :=
  if x.reason ≠ 0 then (x, false) else if w < 1 ∨ x.W < w then (x.refused 1 w, false) else if h < 1 ∨ x.H < h then (x.refused 1 h, false) else (x, true)
def Led.take (x : Led) (n : Int) : Led × Bool :=
  if x.reason ≠ 0 then (x, false) else if n < 0 ∨ x.B - x.bytes < n then (x.refused 2 n, false) else ({ x with bytes := x.bytes + n, peak := if x.peak < x.bytes + n then x.bytes + n else x.peak }, true)
def Led.give (x : Led) (n : Int) : Led × Bool :=
  if n < 0 ∨ x.bytes < n then (x, false) else ({ x with bytes := x.bytes - n }, true)
def Led.work (x : Led) (n : Int) : Led × Bool :=
  if x.reason ≠ 0 then (x, false) else if n < 0 ∨ x.S - x.steps < n then (x.refused 3 n, false) else ({ x with steps := x.steps + n }, true)

/-- what holds of every ledger that its own calls made -/
structure Led.Ok (x : Led) : Prop where
  w0 : 0 ≤ x.W
  w1 : x.W ≤ 9223372036854775807
  h0 : 0 ≤ x.H
  h1 : x.H ≤ 9223372036854775807
  b1 : x.B ≤ 9223372036854775807
  s1 : x.S ≤ 9223372036854775807
  y0 : 0 ≤ x.bytes
  y1 : x.bytes ≤ x.B
  p0 : x.bytes ≤ x.peak
  p1 : x.peak ≤ x.B
  t0 : 0 ≤ x.steps
  t1 : x.steps ≤ x.S

theorem Led.Ok.refused {x : Led} (h : x.Ok) (r a : Int) : (x.refused r a).Ok := ⟨h.w0, h.w1, h.h0, h.h1, h.b1, h.s1, h.y0, h.y1, h.p0, h.p1, h.t0, h.t1⟩
theorem Led.Ok.sides {x : Led} (h : x.Ok) (a b : Int) : (x.sides a b).1.Ok := by
  unfold Led.sides
  split
  · exact h
  · split
    · exact h.refused _ _
    · split
      · exact h.refused _ _
      · exact h
theorem Led.Ok.take {x : Led} (h : x.Ok) (n : Int) : (x.take n).1.Ok := by
  unfold Led.take
  split
  · exact h
  · split
    · exact h.refused _ _
    · obtain ⟨a, b, c, d, e, f, g, i, j, k, l, m⟩ := h
      refine ⟨a, b, c, d, e, f, ?_, ?_, ?_, ?_, l, m⟩ <;> simp only <;> (try split) <;> omega
theorem Led.Ok.give {x : Led} (h : x.Ok) (n : Int) : (x.give n).1.Ok := by
  unfold Led.give
  split
  · exact h
  · obtain ⟨a, b, c, d, e, f, g, i, j, k, l, m⟩ := h
    refine ⟨a, b, c, d, e, f, ?_, ?_, ?_, ?_, l, m⟩ <;> simp only <;> omega
theorem Led.Ok.work {x : Led} (h : x.Ok) (n : Int) : (x.work n).1.Ok := by
  unfold Led.work
  split
  · exact h
  · split
    · exact h.refused _ _
    · obtain ⟨a, b, c, d, e, f, g, i, j, k, l, m⟩ := h
      refine ⟨a, b, c, d, e, f, g, i, j, k, ?_, ?_⟩ <;> simp only <;> omega
end Go.Proofs.YthljhebbblhakaaGreatDoor
namespace Go.Proofs.YthljhebbblhakaaGreatDoor
open Go.RowKit
set_option linter.unusedVariables false

def Led.flag (x : Led) : Int := if x.reason = 0 then 0 else 1
def Led.cells (x : Led) : Array Value := #[.int .i64 x.W, .int .i64 x.H, .int .i64 x.B, .int .i64 x.S, .int .i64 x.bytes, .int .i64 x.peak, .int .i64 x.steps, .int .u32 x.flag, .int .u32 x.flag, .int .i32 0, .int .u32 0, .int .i64 x.reason, .int .i64 x.asked]
def LedAt (w : World) (g : Nat) (x : Led) : Prop := Blk w g 94 x.cells

section
variable {w : World} {g : Nat} {x : Led}
theorem LedAt.W (h : LedAt w g x) : w.cell? ⟨g, 0, none⟩ = some (.int .i64 x.W) := Blk.cell h 0
theorem LedAt.H (h : LedAt w g x) : w.cell? ⟨g, 1, none⟩ = some (.int .i64 x.H) := Blk.cell h 1
theorem LedAt.B (h : LedAt w g x) : w.cell? ⟨g, 2, none⟩ = some (.int .i64 x.B) := Blk.cell h 2
theorem LedAt.S (h : LedAt w g x) : w.cell? ⟨g, 3, none⟩ = some (.int .i64 x.S) := Blk.cell h 3
theorem LedAt.bytes (h : LedAt w g x) : w.cell? ⟨g, 4, none⟩ = some (.int .i64 x.bytes) := Blk.cell h 4
theorem LedAt.peak (h : LedAt w g x) : w.cell? ⟨g, 5, none⟩ = some (.int .i64 x.peak) := Blk.cell h 5
theorem LedAt.steps (h : LedAt w g x) : w.cell? ⟨g, 6, none⟩ = some (.int .i64 x.steps) := Blk.cell h 6
theorem LedAt.broken (h : LedAt w g x) : w.cell? ⟨g, 7, none⟩ = some (.int .u32 x.flag) := Blk.cell h 7
theorem LedAt.done (h : LedAt w g x) : w.cell? ⟨g, 8, none⟩ = some (.int .u32 x.flag) := Blk.cell h 8
theorem LedAt.mu (h : LedAt w g x) : w.cell? ⟨g, 9, none⟩ = some (.int .i32 0) := Blk.cell h 9
theorem LedAt.reason (h : LedAt w g x) : w.cell? ⟨g, 11, none⟩ = some (.int .i64 x.reason) := Blk.cell h 11
theorem LedAt.asked (h : LedAt w g x) : w.cell? ⟨g, 12, none⟩ = some (.int .i64 x.asked) := Blk.cell h 12
theorem LedAt.frozen (h : LedAt w g x) (i : Nat) : w.frozen? ⟨g, i, none⟩ = false := Blk.frozen h i
end

theorem refuse1_any (g p0 p1 p2 : Nat) (r a : Int) (cs : Array Value) (w : World) (h0 : w.cell? ⟨p0, 0, none⟩ = some (.int .i64 r)) (h1 : w.cell? ⟨p1, 0, none⟩ = some (.int .i64 a)) (h2 : w.cell? ⟨p2, 0, none⟩ = some (.pointer (some ⟨g, 0, none⟩)))
    (hB : Blk w g 94 cs) (hs : cs.size = 13) (n2 : p2 ≠ g) :
    Calls Tryz.prog 100 #[.pointer (some ⟨p0, 0, none⟩), .pointer (some ⟨p1, 0, none⟩), .pointer (some ⟨p2, 0, none⟩)] w fun e w' => e = .returned (.tuple #[]) ∧
      Blk w' g 94 (((cs.setIfInBounds 11 (.int .i64 r)).setIfInBounds 12 (.int .i64 a)).setIfInBounds 7 (.int .u32 1)) ∧ w.grownBy w' (some g) := by
  obtain ⟨y11, c11⟩ : ∃ y, w.cell? ⟨g, 11, none⟩ = some y := ⟨_, (hB.cell 11).trans (Array.getElem?_eq_getElem (by omega))⟩
  obtain ⟨y12, c12⟩ : ∃ y, w.cell? ⟨g, 12, none⟩ = some y := ⟨_, (hB.cell 12).trans (Array.getElem?_eq_getElem (by omega))⟩
  obtain ⟨y7, c7⟩ : ∃ y, w.cell? ⟨g, 7, none⟩ = some y := ⟨_, (hB.cell 7).trans (Array.getElem?_eq_getElem (by omega))⟩
  have f11 := hB.frozen 11
  have f12 := hB.frozen 12
  have f7 := hB.frozen 7
  have HB := Lib.hid hB
  clear hB hs
  go_enter Tryz.func100, Tryz.ntmps100
  go_wp2_with (go_at_call 101; refine (storeB _ y7 _ (by go_simp) (by go_simp)).mono ?_; rintro e w' ⟨rfl, rfl⟩)
  go_end0
  exact ⟨rfl, (((HB.out.set_ 11 _).set_ 12 _).drew).set_ 7 _, only_set (only_drew (only_set (only_set (only_refl _ _) 11 _) 12 _)) 7 _⟩

/-- the world in which refuse calls Do -/
def rW (w : World) (g : Nat) (r a : Int) : World := ((w.alloc (.cells #[.pointer (some ⟨g, 0, none⟩)] 34)).alloc (.cells #[.int .i64 r] 3)).alloc (.cells #[.int .i64 a] 3)

theorem refuse_any (g : Nat) (x : Led) (r a : Int) (w : World) (h : LedAt w g x) (hx : x.reason = 0) (hr : r ≠ 0) :
    Calls Tryz.prog 75 #[.pointer (some ⟨g, 0, none⟩), .int .i64 r, .int .i64 a] w fun e w' => e = .returned (.bool false) ∧ LedAt w' g (x.refused r a) ∧ w.grownBy w' (some g) := by
  have hg : g < w.heap.size := Blk.lt h
  have hmf : ∀ (fn : Fn) (first cap : Array Value) (w : World), (Instr.makeFunc fn first cap).run Tryz.prog w = .ok (.func fn first cap) w := fun _ _ _ _ => rfl
  have HX := Lib.hid hx
  have HR := Lib.hid hr
  have HL := Lib.hid h
  clear hx hr h
  go_enter Tryz.func75, Tryz.ntmps75
  go_wp2_with fail
  show Calls _ _ _ (rW w g r a) _
  have hb3 : Blk (rW w g r a) g 94 x.cells := ((Blk.alloc HL.out _).alloc _).alloc _
  have ho3 : w.grownBy (rW w g r a) (some g) := only_alloc (only_alloc (only_alloc (only_refl _ _) _) _) _
  have hl3 : LedAt (rW w g r a) g x := hb3
  have hf : x.flag = 0 := by unfold Led.flag; rw [if_pos HX.out]
  refine (once_first g 8 100 _ _ (fun w' => Blk w' g 94 ((((x.cells.setIfInBounds 9 (.int .i32 1)).setIfInBounds 11 (.int .i64 r)).setIfInBounds 12 (.int .i64 a)).setIfInBounds 7 (.int .u32 1)) ∧ (rW w g r a).grownBy w' (some g)) (fun w => by kernel_rfl) ?_ hl3.mu (hl3.frozen 9) ?_ ?_).mono ?_
  · have := hl3.done
    rw [hf] at this
    exact this
  · refine (refuse1_any g _ _ _ r a (x.cells.setIfInBounds 9 (.int .i32 1)) _ ?_ ?_ ?_ (hb3.set_ 9 _) rfl (by omega)).mono ?_
    · exact (World.cell?_setCell_other _ _ _ _ (addr_ne (by omega))).trans ((World.cell?_alloc_lt _ _ _ (by first | (simp; done) | (simp; omega))).trans (cell_new _ _ _ 0 _ (by simp)))
    · exact (World.cell?_setCell_other _ _ _ _ (addr_ne (by omega))).trans (cell_new _ _ _ 0 _ (by simp))
    · exact (World.cell?_setCell_other _ _ _ _ (addr_ne (by omega))).trans ((World.cell?_alloc_lt _ _ _ (by first | (simp; done) | (simp; omega))).trans ((World.cell?_alloc_lt _ _ _ (by first | (simp; done) | (simp; omega))).trans (cell_new _ _ _ 0 _ (by simp))))
    · rintro e w' ⟨rfl, h1, h2⟩
      exact ⟨rfl, h1, only_trans (only_set (only_refl _ _) 9 _) h2⟩
  · rintro w' ⟨h1, h2⟩
    exact ⟨⟨_, h1.cell 8⟩, h1.frozen 8, h1.cell 9, h1.frozen 9⟩
  rintro e w' ⟨rfl, w2, ⟨h1, h2⟩, rfl⟩
  have hfin : LedAt (((w2.drew.setCell ⟨g, 8, none⟩ (.int .u32 1)).setCell ⟨g, 8 + 1, none⟩ (.int .i32 0))) g (x.refused r a) := by
    refine ((h1.drew.set_ 8 _).set_ 9 _).eq_ ?_
    have hr' : (x.refused r a).flag = 1 := if_neg HR.out
    unfold Led.cells
    rw [hr']
    simp [Led.refused]
  have honl := only_trans ho3 (only_trans h2 (only_set (only_set (only_drew (only_refl w2 (some g))) 8 (.int .u32 1)) (8 + 1) (.int .i32 0)))
  have HFIN := Lib.hid hfin
  clear hfin h1 hb3 hl3
  go_wp2_with fail
  go_ret
  exact ⟨rfl, HFIN.out, honl⟩

theorem Led.flag_b (x : Led) : (x.flag != 0) = decide (x.reason ≠ 0) := by
  unfold Led.flag
  split <;> rename_i h <;> simp [h]

theorem add_broken (g : Nat) (x : Led) (p : Value) (n m r : Int) (w : World) (h : LedAt w g x) (hx : x.reason ≠ 0) :
    Calls Tryz.prog 104 #[.pointer (some ⟨g, 0, none⟩), p, .int .i64 n, .int .i64 m, .int .i64 r] w fun e w' => e = .returned (.bool false) ∧ w = w' := by
  have hb := h.broken
  have hf : (x.flag != 0) = true := by rw [Led.flag_b]; simpa using hx
  have hnot := sNot
  clear h hx
  go_enter Tryz.func104, Tryz.ntmps104
  go_wp2_with fail
  go_loopg [11] 0 (fun g u wr => w = wr)
  case atStart => rfl
  case round =>
    subst hrel
    go_wp2_with (go_at_call 74; refine (loadB _ x.flag true _ hf hb).mono ?_; rintro e w' ⟨rfl, rfl⟩)
    go_ret
    exact ⟨rfl, rfl⟩

theorem add_no (g o : Nat) (x : Led) (was n m r : Int) (w : World) (h : LedAt w g x) (hx : x.reason = 0) (hr : r ≠ 0) (hc : w.cell? ⟨g, o, none⟩ = some (.int .i64 was)) (h0 : 0 ≤ was) (h1 : was ≤ m) (hm : m ≤ 9223372036854775807) (hn : n < 0 ∨ m - was < n) :
    Calls Tryz.prog 104 #[.pointer (some ⟨g, 0, none⟩), .pointer (some ⟨g, o, none⟩), .int .i64 n, .int .i64 m, .int .i64 r] w fun e w' => e = .returned (.bool false) ∧ LedAt w' g (x.refused r n) ∧ w.grownBy w' (some g) := by
  have hb := h.broken
  have hf : (x.flag != 0) = false := by rw [Led.flag_b]; simpa using hx
  have hnot := sNot
  have HR := Lib.hid (refuse_any g x r n w h hx hr)
  clear h hx hr
  by_cases hneg : n < 0
  · clear hn
    go_enter Tryz.func104, Tryz.ntmps104
    go_wp2_with fail
    go_loopg [11] 0 (fun g u wr => w = wr)
    case atStart => rfl
    case round =>
      subst hrel
      go_wp2_with (first | (go_at_call 74; refine (loadB _ x.flag false _ hf hb).mono ?_; rintro e w' ⟨rfl, rfl⟩) | (go_at_call 105; refine (load64 _ _ _ hc).mono ?_; rintro e w' ⟨rfl, rfl⟩) | (go_at_call 75; refine HR.out.mono ?_; rintro e w' ⟨rfl, hq1, hq2⟩))
      go_ret
      exact ⟨rfl, hq1, hq2⟩
  · have hbig : m - was < n := by omega
    clear hn
    go_enter Tryz.func104, Tryz.ntmps104
    go_wp2_with fail
    go_loopg [11] 0 (fun g u wr => w = wr)
    case atStart => rfl
    case round =>
      subst hrel
      go_wp2_with (first | (go_at_call 74; refine (loadB _ x.flag false _ hf hb).mono ?_; rintro e w' ⟨rfl, rfl⟩) | (go_at_call 105; refine (load64 _ _ _ hc).mono ?_; rintro e w' ⟨rfl, rfl⟩) | (go_at_call 75; refine HR.out.mono ?_; rintro e w' ⟨rfl, hq1, hq2⟩))
      go_ret
      exact ⟨rfl, hq1, hq2⟩

theorem add_yes (g o : Nat) (x : Led) (was n m r : Int) (w : World) (h : LedAt w g x) (hx : x.reason = 0) (hc : w.cell? ⟨g, o, none⟩ = some (.int .i64 was)) (h0 : 0 ≤ was) (h1 : was ≤ m) (hm : m ≤ 9223372036854775807) (hn0 : 0 ≤ n) (hn : n ≤ m - was) :
    Calls Tryz.prog 104 #[.pointer (some ⟨g, 0, none⟩), .pointer (some ⟨g, o, none⟩), .int .i64 n, .int .i64 m, .int .i64 r] w fun e w' => e = .returned (.bool true) ∧ w.setCell ⟨g, o, none⟩ (.int .i64 (was + n)) = w' := by
  have hb := h.broken
  have hf : (x.flag != 0) = false := by rw [Led.flag_b]; simpa using hx
  have hz := h.frozen o
  have hnot := sNot
  clear h hx
  go_enter Tryz.func104, Tryz.ntmps104
  go_wp2_with fail
  go_loopg [11] 0 (fun g u wr => w = wr)
  case atStart => rfl
  case round =>
    subst hrel
    go_wp2_with (first | (go_at_call 74; refine (loadB _ x.flag false _ hf hb).mono ?_; rintro e w' ⟨rfl, rfl⟩) | (go_at_call 105; refine (load64 _ _ _ hc).mono ?_; rintro e w' ⟨rfl, rfl⟩) | (go_at_call 106; refine (cas64 _ _ _ _ hc hz).mono ?_; rintro e w' ⟨rfl, rfl⟩))
    go_ret
    exact ⟨rfl, rfl⟩

theorem broken_any (g : Nat) (x : Led) (w : World) (h : LedAt w g x) :
    Calls Tryz.prog 65 #[.pointer (some ⟨g, 0, none⟩)] w fun e w' => e = .returned (.bool (decide (x.reason ≠ 0))) ∧ w = w' := by
  have hc := h.broken
  have hf := Led.flag_b x
  clear h
  go_enter Tryz.func65, Tryz.ntmps65
  go_wp2_with (first | (go_at_call 74; refine (loadB _ _ _ _ rfl hc).mono ?_; rintro e w' ⟨rfl, rfl⟩))
  go_ret
  exact ⟨ret1 (vbool (by simp)), rfl⟩

set_option maxHeartbeats 1000000 in
theorem work_any (g : Nat) (x : Led) (n : Int) (w : World) (h : LedAt w g x) (ok : x.Ok) :
    Calls Tryz.prog 82 #[.pointer (some ⟨g, 0, none⟩), .int .i64 n] w fun e w' => e = .returned (.bool (x.work n).2) ∧ LedAt w' g (x.work n).1 ∧ w.grownBy w' (some g) := by
  have hS := h.S
  have hc := h.steps
  have t0 := ok.t0
  have t1 := ok.t1
  have s1 := ok.s1
  have HL := Lib.hid h
  by_cases hx : x.reason ≠ 0
  · have e := Lib.hid (show x.work n = (x, false) from if_pos hx)
    have HA := Lib.hid fun (w : World) (h : LedAt w g x) => add_broken g x (.pointer (some ⟨g, 6, none⟩)) n x.S 3 w h hx
    clear h ok hx
    go_enter Tryz.func82, Tryz.ntmps82
    go_wp2_with fail
    go_region_with (go_at_call 104; refine (HA.out _ ?_).mono ?_; (exact HL.out); rintro e w' ⟨rfl, rfl⟩)
    go_wp2_with fail
    go_ret
    exact ⟨by rw [e.out]; rfl, by rw [e.out]; exact HL.out, only_drew (only_refl _ _)⟩
  by_cases hn : n < 0 ∨ x.S - x.steps < n
  · have e := Lib.hid (show x.work n = (x.refused 3 n, false) by unfold Led.work; rw [if_neg hx, if_pos hn])
    have HA := Lib.hid fun (w : World) (h : LedAt w g x) => add_no g 6 x x.steps n x.S 3 w h (by simpa using hx) (by decide) h.steps t0 t1 s1 hn
    clear h ok hx hn
    go_enter Tryz.func82, Tryz.ntmps82
    go_wp2_with fail
    go_region_with (go_at_call 104; refine (HA.out _ ?_).mono ?_; (exact HL.out); rintro e w' ⟨rfl, hq1, hq2⟩)
    go_wp2_with fail
    go_ret
    exact ⟨by rw [e.out]; rfl, by rw [e.out]; exact hq1, only_trans (only_drew (only_refl _ _)) hq2⟩
  · have e := Lib.hid (show x.work n = ({ x with steps := x.steps + n }, true) by unfold Led.work; rw [if_neg hx, if_neg hn])
    have HA := Lib.hid fun (w : World) (h : LedAt w g x) => add_yes g 6 x x.steps n x.S 3 w h (by simpa using hx) h.steps t0 t1 s1 (by omega) (by omega)
    clear h ok hx hn
    go_enter Tryz.func82, Tryz.ntmps82
    go_wp2_with fail
    go_region_with (go_at_call 104; refine (HA.out _ ?_).mono ?_; (exact HL.out); rintro e w' ⟨rfl, rfl⟩)
    go_wp2_with fail
    go_ret
    exact ⟨by rw [e.out]; rfl, by rw [e.out]; exact (Blk.set_ HL.out 6 _).eq_ (by simp [Led.cells, Led.flag]), only_drew (only_set (only_refl _ _) 6 _)⟩

set_option maxHeartbeats 1000000 in
theorem take_any (g : Nat) (x : Led) (n : Int) (w : World) (h : LedAt w g x) (ok : x.Ok) :
    Calls Tryz.prog 78 #[.pointer (some ⟨g, 0, none⟩), .int .i64 n] w fun e w' => e = .returned (.bool (x.take n).2) ∧ LedAt w' g (x.take n).1 ∧ w.grownBy w' (some g) := by
  have hB := h.B
  have hc := h.bytes
  have y0 := ok.y0
  have y1 := ok.y1
  have b1 := ok.b1
  have p0 := ok.p0
  have p1 := ok.p1
  have HL := Lib.hid h
  by_cases hx : x.reason ≠ 0
  · have e := Lib.hid (show x.take n = (x, false) from if_pos hx)
    have HA := Lib.hid fun (w : World) (h : LedAt w g x) => add_broken g x (.pointer (some ⟨g, 4, none⟩)) n x.B 2 w h hx
    clear h ok hx
    go_enter Tryz.func78, Tryz.ntmps78
    go_wp2_with fail
    go_region_with (go_at_call 104; refine (HA.out _ ?_).mono ?_; (exact HL.out); rintro e w' ⟨rfl, rfl⟩)
    go_wp2_with fail
    go_ret
    exact ⟨by rw [e.out]; rfl, by rw [e.out]; exact HL.out, only_drew (only_refl _ _)⟩
  by_cases hn : n < 0 ∨ x.B - x.bytes < n
  · have e := Lib.hid (show x.take n = (x.refused 2 n, false) by unfold Led.take; rw [if_neg hx, if_pos hn])
    have HA := Lib.hid fun (w : World) (h : LedAt w g x) => add_no g 4 x x.bytes n x.B 2 w h (by simpa using hx) (by decide) h.bytes y0 y1 b1 hn
    clear h ok hx hn
    go_enter Tryz.func78, Tryz.ntmps78
    go_wp2_with fail
    go_region_with (go_at_call 104; refine (HA.out _ ?_).mono ?_; (exact HL.out); rintro e w' ⟨rfl, hq1, hq2⟩)
    go_wp2_with fail
    go_ret
    exact ⟨by rw [e.out]; rfl, by rw [e.out]; exact hq1, only_trans (only_drew (only_refl _ _)) hq2⟩
  · have e := Lib.hid (show x.take n = ({ x with bytes := x.bytes + n, peak := if x.peak < x.bytes + n then x.bytes + n else x.peak }, true) by unfold Led.take; rw [if_neg hx, if_neg hn])
    have HA := Lib.hid fun (w : World) (h : LedAt w g x) => add_yes g 4 x x.bytes n x.B 2 w h (by simpa using hx) h.bytes y0 y1 b1 (by omega) (by omega)
    have n0 : 0 ≤ n := by omega
    clear h ok hx hn
    go_enter Tryz.func78, Tryz.ntmps78
    go_wp2_with fail
    go_region_with (go_at_call 104; refine (HA.out _ ?_).mono ?_; (exact HL.out); rintro e w' ⟨rfl, rfl⟩)
    have hb1 : Blk ((w.setCell ⟨g, 4, none⟩ (.int .i64 (x.bytes + n))).drew) g 94 (x.cells.setIfInBounds 4 (.int .i64 (x.bytes + n))) := (Blk.set_ HL.out 4 _).drew
    have ho1 : w.grownBy ((w.setCell ⟨g, 4, none⟩ (.int .i64 (x.bytes + n))).drew) (some g) := only_drew (only_set (only_refl _ _) 4 _)
    go_wp2_with fail
    simp only [Act.put, List.getElem_toArray, List.getElem_cons_succ, List.getElem_cons_zero, List.setIfInBounds_toArray, List.set_cons_succ, List.set_cons_zero]
    go_loopg [5, 6] 0 (fun k a b wr => Blk wr g 94 (x.cells.setIfInBounds 4 (.int .i64 (x.bytes + n))) ∧ w.grownBy wr (some g))
    case atStart => exact ⟨hb1, ho1⟩
    case round =>
      obtain ⟨hb, ho⟩ := hrel
      have c4 : wr.cell? ⟨g, 4, none⟩ = some (.int .i64 (x.bytes + n)) := hb.cell 4
      have c5 : wr.cell? ⟨g, 5, none⟩ = some (.int .i64 x.peak) := hb.cell 5
      have f5 := hb.frozen 5
      have HB := Lib.hid hb
      clear hb hb1 ho1
      by_cases hp : x.bytes + n ≤ x.peak
      · have q := Lib.hid (show (if x.peak < x.bytes + n then x.bytes + n else x.peak) = x.peak from if_neg (by omega))
        go_wp2_with fail
        go_quiet ((go_at_call 105; first | exact Calls.quiet_of_same (load64_same _ _ _ c4) | exact Calls.quiet_of_same (load64_same _ _ _ c5)))
        go_wp2_with fail
        go_ret
        exact ⟨by rw [e.out]; rfl, by rw [e.out, q.out]; exact (Blk.drewN HB.out _).eq_ (by simp [Led.cells, Led.flag]), only_drewN ho _⟩
      · have q := Lib.hid (show (if x.peak < x.bytes + n then x.bytes + n else x.peak) = x.bytes + n from if_pos (by omega))
        go_wp2_with fail
        go_quiet ((go_at_call 105; first | exact Calls.quiet_of_same (load64_same _ _ _ c4) | exact Calls.quiet_of_same (load64_same _ _ _ c5)))
        go_wp2_with (go_at_call 106; refine (cas64 _ _ _ _ (by exact c5) (by exact f5)).mono ?_; rintro e w' ⟨rfl, rfl⟩)
        go_ret
        exact ⟨by rw [e.out]; rfl, by rw [e.out, q.out]; exact (Blk.set_ (Blk.drewN HB.out _) 5 _).eq_ (by simp [Led.cells, Led.flag]), only_set (only_drewN ho _) 5 _⟩
end Go.Proofs.YthljhebbblhakaaGreatDoor
namespace Go.Proofs.YthljhebbblhakaaGreatDoor
open Go.RowKit
set_option linter.unusedVariables false

theorem ledNew_any (a b c d : Int) (w : World) :
    Calls Tryz.prog 32 #[.agg #[.int .i64 a, .int .i64 b, .int .i64 c, .int .i64 d]] w fun e w' => e = .returned (.pointer (some ⟨w.heap.size + 1, 0, none⟩)) ∧ LedAt w' (w.heap.size + 1) (Led.new a b c d) ∧ Below w.heap.size w w' := by
  go_enter Tryz.func32, Tryz.ntmps32
  go_wp2_with fail
  all_goals go_ret
  all_goals refine ⟨rfl, (Blk.new_at _ _ _ (by simp)).eq_ ?_, ((Below.refl _ _).alloc (Nat.le_refl _) _).alloc (by simp) _⟩
  all_goals simp only [Led.cells, Led.new, Led.flag, nought, Array.mk.injEq, List.cons.injEq, Value.int.injEq, and_true, true_and, if_true]
  all_goals (refine ⟨?_, ?_, ?_, ?_⟩ <;> split <;> omega)

theorem sides_any (g : Nat) (x : Led) (a b : Int) (w : World) (h : LedAt w g x) (ok : x.Ok) :
    Calls Tryz.prog 53 #[.pointer (some ⟨g, 0, none⟩), .int .i64 a, .int .i64 b] w fun e w' => e = .returned (.bool (x.sides a b).2) ∧ LedAt w' g (x.sides a b).1 ∧ w.grownBy w' (some g) := by
  have cW := h.W
  have cH := h.H
  have cb := h.broken
  have HL := Lib.hid h
  by_cases hx : x.reason ≠ 0
  · have e := Lib.hid (show x.sides a b = (x, false) from if_pos hx)
    have hf : (x.flag != 0) = true := by rw [Led.flag_b]; simpa using hx
    clear hx h ok
    go_enter Tryz.func53, Tryz.ntmps53
    go_wp2_with (go_at_call 74; refine (loadB _ x.flag true _ hf cb).mono ?_; rintro e w' ⟨rfl, rfl⟩)
    go_ret
    exact ⟨by rw [e.out]; rfl, by rw [e.out]; exact HL.out, only_refl _ _⟩
  have hx0 : x.reason = 0 := by simpa using hx
  have hf : (x.flag != 0) = false := by rw [Led.flag_b]; simpa using hx
  by_cases hw : a < 1 ∨ x.W < a
  · have e := Lib.hid (show x.sides a b = (x.refused 1 a, false) by unfold Led.sides; rw [if_neg hx, if_pos hw])
    have HR := Lib.hid (refuse_any g x 1 a w h hx0 (by decide))
    clear hx hx0 h ok
    by_cases ha : a < 1
    all_goals
      have ha' : ¬ a < 1 → x.W < a := by omega
      clear hw
      go_enter Tryz.func53, Tryz.ntmps53
      go_wp2_with (first | (go_at_call 74; refine (loadB _ x.flag false _ hf cb).mono ?_; rintro e w' ⟨rfl, rfl⟩) | (go_at_call 75; refine HR.out.mono ?_; rintro e w' ⟨rfl, hq1, hq2⟩))
      go_ret
      exact ⟨by rw [e.out]; rfl, by rw [e.out]; exact hq1, hq2⟩
  by_cases hh : b < 1 ∨ x.H < b
  · have e := Lib.hid (show x.sides a b = (x.refused 1 b, false) by unfold Led.sides; rw [if_neg hx, if_neg hw, if_pos hh])
    have HR := Lib.hid (refuse_any g x 1 b w h hx0 (by decide))
    have ha : ¬ a < 1 := by omega
    have ha' : ¬ x.W < a := by omega
    clear hx hx0 h ok hw
    by_cases hb : b < 1
    all_goals
      have hb' : ¬ b < 1 → x.H < b := by omega
      clear hh
      go_enter Tryz.func53, Tryz.ntmps53
      go_wp2_with (first | (go_at_call 74; refine (loadB _ x.flag false _ hf cb).mono ?_; rintro e w' ⟨rfl, rfl⟩) | (go_at_call 75; refine HR.out.mono ?_; rintro e w' ⟨rfl, hq1, hq2⟩))
      go_ret
      exact ⟨by rw [e.out]; rfl, by rw [e.out]; exact hq1, hq2⟩
  · have e := Lib.hid (show x.sides a b = (x, true) by unfold Led.sides; rw [if_neg hx, if_neg hw, if_neg hh])
    have ha : ¬ a < 1 := by omega
    have ha' : ¬ x.W < a := by omega
    have hb : ¬ b < 1 := by omega
    have hb' : ¬ x.H < b := by omega
    clear hx hx0 h ok hw hh
    go_enter Tryz.func53, Tryz.ntmps53
    go_wp2_with (first | (go_at_call 74; refine (loadB _ x.flag false _ hf cb).mono ?_; rintro e w' ⟨rfl, rfl⟩))
    go_ret
    exact ⟨by rw [e.out]; rfl, by rw [e.out]; exact HL.out, only_refl _ _⟩
end Go.Proofs.YthljhebbblhakaaGreatDoor
namespace Go.Proofs.YthljhebbblhakaaGreatDoor
open Go.RowKit
set_option linter.unusedVariables false

section
variable {w : World} {g : Nat} {x y : Led} {n m : Int} {b : Bool}
theorem take_at (h : LedAt w g x) (ok : x.Ok) (e : x.take n = (y, b)) : Calls Tryz.prog 78 #[.pointer (some ⟨g, 0, none⟩), .int .i64 n] w fun e w' => e = .returned (.bool b) ∧ LedAt w' g y ∧ w.grownBy w' (some g) := by
  have := take_any g x n w h ok
  rw [e] at this
  exact this
theorem work_at (h : LedAt w g x) (ok : x.Ok) (e : x.work n = (y, b)) : Calls Tryz.prog 82 #[.pointer (some ⟨g, 0, none⟩), .int .i64 n] w fun e w' => e = .returned (.bool b) ∧ LedAt w' g y ∧ w.grownBy w' (some g) := by
  have := work_any g x n w h ok
  rw [e] at this
  exact this
theorem sides_at (h : LedAt w g x) (ok : x.Ok) (e : x.sides n m = (y, b)) : Calls Tryz.prog 53 #[.pointer (some ⟨g, 0, none⟩), .int .i64 n, .int .i64 m] w fun e w' => e = .returned (.bool b) ∧ LedAt w' g y ∧ w.grownBy w' (some g) := by
  have := sides_any g x n m w h ok
  rw [e] at this
  exact this
theorem broken_at (h : LedAt w g x) (e : decide (x.reason ≠ 0) = b) : Calls Tryz.prog 65 #[.pointer (some ⟨g, 0, none⟩)] w fun e w' => e = .returned (.bool b) ∧ w = w' := e ▸ broken_any g x w h
theorem below_next {a c : World} (h : Below w.heap.size w a) (k : Below a.heap.size a c) : Below w.heap.size w c := h.trans (k.mono h.size)
end

theorem ledNew_at {a b c d : Int} {x : Led} (e : Led.new a b c d = x) (w : World) :
    Calls Tryz.prog 32 #[.agg #[.int .i64 a, .int .i64 b, .int .i64 c, .int .i64 d]] w fun e w' => ∃ g, e = .returned (.pointer (some ⟨g, 0, none⟩)) ∧ w.heap.size ≤ g ∧ LedAt w' g x ∧ Below w.heap.size w w' := by
  refine (ledNew_any a b c d w).mono ?_
  rintro e' w' ⟨rfl, h, b⟩
  exact ⟨_, rfl, by omega, e ▸ h, b⟩

def A0 : Led := ⟨0, 0, 10, 0, 0, 0, 0, 0, 0⟩
def A1 : Led := ⟨0, 0, 10, 0, 8, 8, 0, 0, 0⟩
def A2 : Led := ⟨0, 0, 10, 0, 8, 8, 0, 2, 3⟩
def A4 : Led := ⟨0, 0, 10, 0, 0, 8, 0, 2, 3⟩
theorem A0.ok : A0.Ok := by constructor <;> decide
theorem A1.ok : A1.Ok := by constructor <;> decide
theorem A2.ok : A2.Ok := by constructor <;> decide

end Go.Proofs.YthljhebbblhakaaGreatDoor
namespace Go.Proofs.YthljhebbblhakaaGreatDoor
open Go.RowKit
set_option linter.unusedVariables false

structure Turn (S : List Nat) (w w' : World) : Prop where
  os : w'.os = w.os
  tape : w'.tape = w.tape
  output : w'.output = w.output
  size : w.heap.size ≤ w'.heap.size
  block : ∀ i, i < w.heap.size → i ∉ S → w'.heap[i]? = w.heap[i]?

section
variable {S S' : List Nat} {w w' a b c : World} {g : Nat} {t : TypeId} {cs : Array Value}
theorem Turn.refl (S : List Nat) (w : World) : Turn S w w := ⟨rfl, rfl, rfl, Nat.le_refl _, fun _ _ _ => rfl⟩
theorem Turn.of_grown (h : w.grownBy w' (some g)) (hg : g ∈ S) : Turn S w w' := ⟨h.os, h.tape, h.output, h.size, fun i hi hn => h.block i hi (fun e => hn (by injection e with e; exact e ▸ hg))⟩
theorem Turn.of_below (h : Below w.heap.size w w') : Turn S w w' := ⟨h.os, h.tape, h.output, h.size, fun i hi _ => h.block i hi⟩
theorem Turn.trans (h : Turn S a b) (k : Turn S b c) : Turn S a c := ⟨k.os.trans h.os, k.tape.trans h.tape, k.output.trans h.output, Nat.le_trans h.size k.size, fun i hi hn => (k.block i (Nat.lt_of_lt_of_le hi h.size) hn).trans (h.block i hi hn)⟩
theorem Turn.mono (h : Turn S a b) (hs : ∀ i ∈ S, i ∈ S' ∨ a.heap.size ≤ i) : Turn S' a b := ⟨h.os, h.tape, h.output, h.size, fun i hi hn => h.block i hi (fun e => (hs i e).elim hn (fun k => by omega))⟩
/-- behind an elder step: what is new to the elder world may turn -/
theorem Turn.next (h : Turn S a b) (k : Turn S' b c) (hs : ∀ i ∈ S', i ∈ S ∨ a.heap.size ≤ i) : Turn S a c :=
  ⟨k.os.trans h.os, k.tape.trans h.tape, k.output.trans h.output, Nat.le_trans h.size k.size, fun i hi hn => (k.block i (Nat.lt_of_lt_of_le hi h.size) (fun e => (hs i e).elim hn (fun m => by omega))).trans (h.block i hi hn)⟩
theorem Turn.drew (h : Turn S a w) : Turn S a w.drew := ⟨h.os, h.tape, h.output, h.size, h.block⟩
theorem Turn.drewN (h : Turn S a w) (n : Nat) : Turn S a (w.drewN n) := ⟨h.os, h.tape, h.output, h.size, h.block⟩
theorem Turn.alloc (h : Turn S a w) (o : Obj) : Turn S a (w.alloc o) :=
  ⟨h.os, h.tape, h.output, Nat.le_trans h.size (by simp), fun i hi hne => (Below.heap_alloc w o i (Nat.lt_of_lt_of_le hi h.size)).trans (h.block i hi hne)⟩
theorem Turn.set_ (h : Turn S a w) (i : Nat) (u : Value) (hg : g ∈ S ∨ a.heap.size ≤ g) : Turn S a (w.setCell ⟨g, i, none⟩ u) :=
  ⟨h.os, h.tape, h.output, by simpa [World.setCell] using h.size, fun j hi hne => (Below.heap_setCell w _ u j (by rintro rfl; exact hg.elim hne (fun k => absurd hi (by simp; omega)))).trans (h.block j hi hne)⟩
theorem Turn.below {B : Nat} (h : Turn S a b) (hs : ∀ i ∈ S, B ≤ i) (hB : B ≤ a.heap.size) : Below B a b :=
  ⟨h.os, h.tape, h.output, h.size, fun i hi => h.block i (by omega) (fun e => by have := hs i e; omega)⟩
theorem Blk.turn (h : Blk w g t cs) (k : Turn S w w') (hn : g ∉ S) : Blk w' g t cs := (k.block g h.lt hn).trans h
theorem Turn.cell (h : Turn S w w') {i : Nat} (hi : i < w.heap.size) (hn : i ∉ S) (o : Nat) : w'.cell? ⟨i, o, none⟩ = w.cell? ⟨i, o, none⟩ := World.cell?_of_block (h.block i hi hn)
/-- a step of new blocks behind a step that only made memory -/
theorem Turn.belowNext {B : Nat} (h : Below B a b) (k : Turn S b c) (hs : ∀ i ∈ S, B ≤ i) (hB : B ≤ b.heap.size) : Below B a c := h.trans (k.below hs hB)
theorem LedAt.turn {x : Led} (h : LedAt w g x) (k : Turn S w w') (hg : g ∉ S) : LedAt w' g x := Blk.turn h k hg
theorem not_mem_one {a b : Nat} (h : a ≠ b) : a ∉ [b] := by simpa using h
end
end Go.Proofs.YthljhebbblhakaaGreatDoor
