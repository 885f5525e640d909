/- Writing PNM as text: the law PnmtextWrites. -/
import Derived.Test.YthljhebbblhakaaGreatDoorEWords
import Derived.Test.YthljhebbblhakaaGreatDoorProg
import Derived.WalkKit
import Derived.WalkSpells
import Derived.WalkLawsBesides
import Derived.Lib.Hide
import Derived.Laws.OwnMore
import Derived.Deep.AppendLies
import Derived.Deep.Draws
import Derived.Deep.Onto
import Derived.Deep.AppendSrc
import Derived.Deep.QuietTactic
import Derived.BigQuiet
import Derived.Deep.LoopGhost
import Derived.Deep.CutBlock
import Derived.Deep.DeepCutAuto
import Derived.Deep.Light
import Derived.Deep.RegionWith
import Derived.Test.YthljhebbblhakaaGreatDoorESync
import Derived.Defers
import Derived.Laws.Pointers
import Derived.Laws.LoneSync
import Derived.Laws.NewBlocks
import Derived.RegionTactic
import Derived.RegionCalls
import Derived.ChangeAlike
import Derived.Laws.Rows
import Derived.StillTailTactics
import Derived.Test.YthljhebbblhakaaGreatDoorEBits
import Derived.Laws.BitsAllLaws
import Derived.Laws.BitsLemmas
import Derived.Test.YthljhebbblhakaaGreatDoorEPnmHead
import Derived.Test.YthljhebbblhakaaGreatDoorETok
import Derived.WalkMore
import Derived.ScopeJumps
import Derived.Test.YthljhebbblhakaaGreatDoorEPnmD
import Derived.Test.YthljhebbblhakaaGreatDoorEPnmBst
import Derived.Deep.OwnRows
import Derived.Test.YthljhebbblhakaaGreatDoorEPnmEnc
import Derived.Lib.ItoaNum
import Derived.Test.YthljhebbblhakaaGreatDoorEPnmEnd
import Derived.Test.YthljhebbblhakaaGreatDoorETok2
import Derived.Test.YthljhebbblhakaaGreatDoorETok3
import Derived.Test.YthljhebbblhakaaGreatDoorETok4
import Derived.Test.YthljhebbblhakaaGreatDoorENum
import Derived.Test.YthljhebbblhakaaGreatDoorUPnmW
import Derived.Lib.Mul64
import Derived.Laws.Bits64b
import Derived.Test.YthljhebbblhakaaGreatDoorEBuf
import Derived.Lib.BufferWrite
import Derived.Test.YthljhebbblhakaaGreatDoorERas
import Derived.Test.YthljhebbblhakaaGreatDoorEPnmW
import Derived.Test.YthljhebbblhakaaGreatDoorEPnmKind
import Derived.Test.YthljhebbblhakaaGreatDoorEPnmH
import Derived.Test.YthljhebbblhakaaGreatDoorEPnmStage
import Derived.Test.YthljhebbblhakaaGreatDoorEPnmR
import Derived.Test.YthljhebbblhakaaGreatDoorEPnmR2
import Derived.Test.YthljhebbblhakaaGreatDoorEPnmHd
import Derived.Test.YthljhebbblhakaaGreatDoorEOpenInts
import Derived.ProofKit
import Derived.OpenShut
import Derived.Deep.Slices
import Derived.Test.YthljhebbblhakaaGreatDoorEScaler
import Derived.Test.YthljhebbblhakaaGreatDoorEFfRef3
import Derived.Test.YthljhebbblhakaaGreatDoorUFfD
import Derived.Deep.RegionHeld3
import Derived.ArgAppend
import Derived.Lib.SlBytesConst
import Derived.Deep.RegionLaw
import Derived.Test.YthljhebbblhakaaGreatDoorEFfM
import Derived.Lib.ConvBytes
import Derived.Lib.SliceRun
import Derived.BigRegion
import Derived.Deep.Fields
import Derived.ChangeSame
import Derived.Lib.SmallJoins
import Derived.Test.YthljhebbblhakaaGreatDoorEPnmWb
import Derived.Test.YthljhebbblhakaaGreatDoorPnmShelf
import Derived.Lib.AppendIntMem
import Derived.Test.YthljhebbblhakaaGreatDoorEPnmWc
import Derived.Test.YthljhebbblhakaaGreatDoorETgaKm
import Derived.Test.YthljhebbblhakaaGreatDoorEPnmWd
import Derived.Test.YthljhebbblhakaaGreatDoorEPnmDocs
import Derived.Test.YthljhebbblhakaaGreatDoorUPnmT
import Derived.Test.YthljhebbblhakaaGreatDoorEPnmWg
import Derived.Test.YthljhebbblhakaaGreatDoorUPnmUm
import Derived.Lib.ItoaMem
import Derived.CellFam
import Derived.Test.YthljhebbblhakaaGreatDoorEPnmWh
import Derived.Test.YthljhebbblhakaaGreatDoorUPnmUc
import Derived.Test.YthljhebbblhakaaGreatDoorUPnmUd
import Derived.Test.YthljhebbblhakaaGreatDoorEPnmTr
import Derived.Test.YthljhebbblhakaaGreatDoorUPnmTr
import Derived.Test.YthljhebbblhakaaGreatDoorUPnmLw13
import Derived.Test.YthljhebbblhakaaGreatDoorUPnmOpen
import Derived.Test.YthljhebbblhakaaGreatDoorUImgOpen
import Derived.Test.YthljhebbblhakaaGreatDoorRows
import Derived.LaidLaws
import Derived.LaidSub
import Derived.MakeChecks
import Derived.Lib.LaidTab
namespace Go.Proofs.YthljhebbblhakaaGreatDoor
open Go.RowKit
set_option linter.unusedVariables false
set_option linter.unusedSimpArgs false

set_option maxHeartbeats 2000000 in
theorem textB {k : Int} {b : Bool} (h : decide (1 ≤ k ∧ k ≤ 3) = b) (w : World) : Calls Tryz.prog 23 #[.int .i64 k] w fun e w' => e = .returned (.bool b) ∧ w = w' := by
  subst h
  by_cases h1 : 1 ≤ k
  · by_cases h3 : k ≤ 3
    · rw [decide_eq_true (show 1 ≤ k ∧ k ≤ 3 from ⟨h1, h3⟩)]
      go_enter Tryz.func23, Tryz.ntmps23
      go_wp2_with fail
      go_ret
      exact ⟨rfl, rfl⟩
    · rw [decide_eq_false (show ¬ (1 ≤ k ∧ k ≤ 3) by omega)]
      go_enter Tryz.func23, Tryz.ntmps23
      go_wp2_with fail
      go_ret
      exact ⟨rfl, rfl⟩
  · rw [decide_eq_false (show ¬ (1 ≤ k ∧ k ≤ 3) by omega)]
    go_enter Tryz.func23, Tryz.ntmps23
    go_wp2_with fail
    go_ret
    exact ⟨rfl, rfl⟩
set_option maxHeartbeats 2000000 in
theorem textWrite_arg {k W H : Int} {a : Option Addr} {n c : Nat} {w : World} (hk : k < 1 ∨ 3 < k) : Calls Tryz.prog 7 #[.agg #[.int .i64 W, .int .i64 H, .slice a n c], .int .i64 k] w fun e w' => Below w.heap.size w w' ∧ e = .returned (.tuple #[.string ⟨#[]⟩, .int .i64 1]) := by
  have b : Below w.heap.size w (w.alloc (.cells #[.int .i64 W, .int .i64 H, .slice a n c] 24)) := (Below.refl _ _).alloc (Nat.le_refl _) _
  have HTX := Lib.hid (fun w => textB (k := k) (b := false) (decide_eq_false (by omega)) w)
  clear hk
  go_enter Tryz.func7, Tryz.ntmps7
  go_wp2_with (go_at_call 23; refine (HTX.out _).mono ?_; rintro e w1 ⟨rfl, rfl⟩)
  go_ret2
  exact ⟨b, rfl⟩
set_option maxHeartbeats 2000000 in
theorem textWrite_size {k W H : Int} {a : Option Addr} {n c : Nat} {w : World} (hk : 1 ≤ k ∧ k ≤ 3) (hr : ¬ RightP W H n) : Calls Tryz.prog 7 #[.agg #[.int .i64 W, .int .i64 H, .slice a n c], .int .i64 k] w fun e w' => Below w.heap.size w w' ∧ e = .returned (.tuple #[.string ⟨#[]⟩, .int .i64 11]) := by
  have b : Below w.heap.size w (w.alloc (.cells #[.int .i64 W, .int .i64 H, .slice a n c] 24)) := (Below.refl _ _).alloc (Nat.le_refl _) _
  have I0 : IB (w.alloc (.cells #[.int .i64 W, .int .i64 H, .slice a n c] 24)) w.heap.size W H a n c := Blk.new _ _ _
  obtain ⟨i0, i1, i2, z0, z1, z2, il⟩ := IB.all I0
  have HTX := Lib.hid (fun w => textB (k := k) (b := true) (decide_eq_true hk) w)
  have HR := Lib.hid (fun w => right_bool (a := a) (c := c) (decide_eq_false hr) w)
  clear hr hk I0
  go_enter Tryz.func7, Tryz.ntmps7
  go_wp2_with (first | (go_at_call 23; refine (HTX.out _).mono ?_; rintro e w2 ⟨rfl, rfl⟩) | (go_at_call 24; refine (HR.out _).mono ?_; rintro e w1 ⟨rfl, b1⟩))
  go_ret2
  exact ⟨below_next b b1, rfl⟩
/-! ### how long a text is -/
theorem dg_le3 {n : Nat} (h : n ≤ 255) : (dg n).length ≤ 3 := by
  unfold dg
  rw [Lib.decDigits_length]
  by_cases h1 : n < 10
  · rw [Lib.nDigits_small h1]; omega
  · rw [Lib.nDigits_big h1]
    by_cases h2 : n / 10 < 10
    · rw [Lib.nDigits_small h2]; omega
    · rw [Lib.nDigits_big h2, Lib.nDigits_small (show n / 10 / 10 < 10 by omega)]; omega
theorem pxT_12 (K : Nat) (b : UInt8) (q : Qc) : (pxT K b q).length ≤ 12 := by
  have h1 := dg_le3 (show q.r.toNat ≤ 255 by have := q.r.toNat_lt; omega)
  have h2 := dg_le3 (show q.g.toNat ≤ 255 by have := q.g.toNat_lt; omega)
  have h3 := dg_le3 (show q.b.toNat ≤ 255 by have := q.b.toNat_lt; omega)
  unfold pxT
  split
  · simp
  · split
    · simp only [List.length_cons, List.length_append]; omega
    · simp only [List.length_cons]; omega
theorem rowT_12 (K : Nat) (L : List Qc) : (rowT K L).length ≤ 12 * L.length := by
  have h : ∀ M : List Qc, ((M.map (pxT K 32)).flatten).length ≤ 12 * M.length := by
    intro M
    induction M with
    | nil => simp
    | cons x M ih =>
      rw [List.map_cons, List.flatten_cons, List.length_append, List.length_cons]
      have := pxT_12 K 32 x
      omega
  cases L with
  | nil => simp [rowT]
  | cons q qs =>
    unfold rowT
    rw [List.length_append, List.length_tail, List.length_cons]
    have h1 := pxT_12 K 10 q
    have h2 := h qs
    omega
theorem text_12 {K W : Nat} (hK : K = 1 ∨ K = 2 ∨ K = 3) : ∀ rows : List (List Qc), (∀ r ∈ rows, r.length = W) → (encRows K rows).length ≤ rows.length * (12 * W + 1)
  | [], _ => by simp [encRows]
  | r :: rows, h => by
    have h1 := rowT_12 K r
    have h2 := text_12 hK rows (fun x hx => h x (List.mem_cons_of_mem _ hx))
    have h3 : (encRow K r).length = (rowT K r).length + 1 := by rw [← rowT_end hK]; simp
    rw [h r List.mem_cons_self] at h1
    unfold encRows at h2 ⊢
    rw [List.map_cons, List.flatten_cons, List.length_append, List.length_cons, Nat.add_mul, Nat.one_mul]
    omega
theorem encT_len {K W H : Nat} {l : List UInt8} (hK : K = 1 ∨ K = 2 ∨ K = 3) : (encL K W H l).length ≤ 12 * (W * H) + 2 * H + W + 20 := by
  have h2 := text_12 (W := W) hK (rowsOf l W H) (fun r hr => by
    obtain ⟨z, _, rfl⟩ := List.mem_map.1 hr
    exact rowOf_len l W z)
  have h3 : (rowsOf l W H).length = H := by unfold rowsOf; simp
  rw [h3, Nat.mul_add, Nat.mul_one, show H * (12 * W) = 12 * (W * H) by rw [Nat.mul_comm W H, ← Nat.mul_assoc, ← Nat.mul_assoc, Nat.mul_comm H 12]] at h2
  have h5 := hdr_len K W H
  have h8 : (dN W).length ≤ W + 1 := by rw [dg_len]; exact dg_le W
  have h9 : (dN H).length ≤ H + 1 := by rw [dg_len]; exact dg_le H
  unfold encL
  rw [List.length_append, h5]
  split <;> omega
end Go.Proofs.YthljhebbblhakaaGreatDoor
namespace Go.Proofs.YthljhebbblhakaaGreatDoor
open Go.RowKit
open Go.ChangeShapes Go.WideShapes Go.ChangeAt
set_option linter.unusedVariables false
set_option linter.unusedSimpArgs false

/-- what holds of the law's image -/
structure WlI (w0 w : World) (W H : Int) (n c : Nat) (a : Option Addr) (l : List UInt8) : Prop where
  I : IB w w0.heap.size W H a n c
  D : BytesAt w a n l
  B : Below w0.heap.size w0 w
section
variable {w0 w w' : World} {W H : Int} {n c : Nat} {a : Option Addr} {l : List UInt8}
theorem WlI.below (h : WlI w0 w W H n c a l) (b : Below w.heap.size w w') : WlI w0 w' W H n c a l := ⟨Blk.below h.I b (Blk.lt h.I), h.D.below b, below_next h.B b⟩
theorem WlI.alloc (h : WlI w0 w W H n c a l) (x : Obj) : WlI w0 (w.alloc x) W H n c a l := h.below ((Below.refl _ _).alloc (Nat.le_refl _) _)
theorem WlI.new (h : BytesAt w a n l) : WlI w (w.alloc (.cells #[.int .i64 W, .int .i64 H, .slice a n c] 24)) W H n c a l := ⟨Blk.new _ _ _, h.alloc _, (Below.refl _ _).alloc (Nat.le_refl _) _⟩
end
def LawV (W H : Int) (n c : Nat) (a : Option Addr) (k : Int) (w : World) : Prop := Calls Tryz.prog 3 #[.agg #[.int .i64 W, .int .i64 H, .slice a n c], .int .i64 k] w fun e w' => e = .returned (.bool true) ∧ Below w.heap.size w w'
set_option maxHeartbeats 4000000 in
theorem law13_long {W H k : Int} {n c : Nat} {a : Option Addr} {l : List UInt8} {w : World} (hb : BytesAt w a n l) (hn : 1000 < n) : LawV W H n c a k w := by
  have W1 : WlI w (w.alloc (.cells #[.int .i64 W, .int .i64 H, .slice a n c] 24)) W H n c a l := WlI.new hb
  obtain ⟨i0, i1, i2, z0, z1, z2, il⟩ := IB.all W1.I
  have hnI : (1000 : Int) < (n : Int) := by omega
  clear hb
  unfold LawV
  go_enter Tryz.func3, Tryz.ntmps3
  go_wp2_with (go_at_call 6; refine (awake13_any _).mono ?_; rintro e w1 ⟨rfl, b1⟩)
  go_ret
  exact ⟨rfl, below_next W1.B b1⟩
set_option maxHeartbeats 4000000 in
theorem law13_arg {W H k : Int} {n c : Nat} {a : Option Addr} {l : List UInt8} {w : World} (hb : BytesAt w a n l) (hn : n ≤ 1000) (hk : k < 1 ∨ 3 < k) : LawV W H n c a k w := by
  have W1 : WlI w (w.alloc (.cells #[.int .i64 W, .int .i64 H, .slice a n c] 24)) W H n c a l := WlI.new hb
  obtain ⟨i0, i1, i2, z0, z1, z2, il⟩ := IB.all W1.I
  have hnI : ¬ (1000 : Int) < (n : Int) := by omega
  have HW := Lib.hid (fun w => textWrite_arg (W := W) (H := H) (a := a) (n := n) (c := c) (w := w) hk)
  clear hb
  unfold LawV
  by_cases h : k < 1
  · clear hk
    go_enter Tryz.func3, Tryz.ntmps3
    go_wp2_with (first | (go_at_call 7; refine (HW.out _).mono ?_; rintro e w1 ⟨b1, rfl⟩) | (go_at_call 6; refine (awake13_any _).mono ?_; rintro e w2 ⟨rfl, b2⟩))
    go_ret
    exact ⟨rfl, below_next (below_next W1.B b1) b2⟩
  · have h6 : 3 < k := by omega
    clear hk
    go_enter Tryz.func3, Tryz.ntmps3
    go_wp2_with (first | (go_at_call 7; refine (HW.out _).mono ?_; rintro e w1 ⟨b1, rfl⟩) | (go_at_call 6; refine (awake13_any _).mono ?_; rintro e w2 ⟨rfl, b2⟩))
    go_ret
    exact ⟨rfl, below_next (below_next W1.B b1) b2⟩
set_option maxHeartbeats 4000000 in
theorem law13_size {W H k : Int} {n c : Nat} {a : Option Addr} {l : List UInt8} {w : World} (hb : BytesAt w a n l) (hn : n ≤ 1000) (hk : 1 ≤ k ∧ k ≤ 3) (hr : ¬ RightP W H n) : LawV W H n c a k w := by
  have W1 : WlI w (w.alloc (.cells #[.int .i64 W, .int .i64 H, .slice a n c] 24)) W H n c a l := WlI.new hb
  obtain ⟨i0, i1, i2, z0, z1, z2, il⟩ := IB.all W1.I
  have hnI : ¬ (1000 : Int) < (n : Int) := by omega
  have HW := Lib.hid (fun w => textWrite_size (W := W) (H := H) (a := a) (n := n) (c := c) (w := w) hk hr)
  have HR := Lib.hid (fun w => refRight_bool (a := a) (c := c) (decide_eq_false hr) w)
  have h4 : ¬ k < 1 := by omega
  have h6 : ¬ 3 < k := by omega
  clear hb hr hk
  unfold LawV
  go_enter Tryz.func3, Tryz.ntmps3
  go_wp2_with (first | (go_at_call 7; refine (HW.out _).mono ?_; rintro e w1 ⟨b1, rfl⟩; have W2 := W1.below b1; clear i0 i1 i2 z0 z1 z2 il; obtain ⟨i0, i1, i2, z0, z1, z2, il⟩ := IB.all W2.I) | (go_at_call 8; refine (HR.out _).mono ?_; rintro e w3 ⟨rfl, b3⟩) | (go_at_call 6; refine (awake13_any _).mono ?_; rintro e w4 ⟨rfl, b4⟩))
  go_ret
  exact ⟨rfl, below_next (below_next W2.B b3) b4⟩
set_option maxHeartbeats 4000000 in
theorem law13_no {W H k n c : Nat} {a : Option Addr} {l : List UInt8} {w : World} (hT : TabW w) (hb : BytesAt w a n l) (hl : n = l.length) (hnc : n ≤ c) (hn : n ≤ 1000) (hk : 1 ≤ k ∧ k ≤ 3) (hr : RightP (W : Int) (H : Int) n) (hWb : W ≤ 250) (hHb : H ≤ 250) (hm : mayAll k l (W * H) = false) : LawV (W : Int) (H : Int) n c a (k : Int) w := by
  have W1 : WlI w (w.alloc (.cells #[.int .i64 (W : Int), .int .i64 (H : Int), .slice a n c] 24)) (W : Int) (H : Int) n c a l := WlI.new hb
  obtain ⟨i0, i1, i2, z0, z1, z2, il⟩ := IB.all W1.I
  have hnI : ¬ (1000 : Int) < (n : Int) := by omega
  have HW := Lib.hid (textWriteC (K := k) (by omega) (hT.below W1.B) hr hl hnc W1.D (by omega) (by omega))
  rw [rawV_no hm] at HW
  have HR := Lib.hid (fun w => refRight_bool (a := a) (c := c) (decide_eq_true hr) w)
  have HM := Lib.hid (fun (w : World) (hb : BytesAt w a n l) => refMayC (c := c) hk hr hl hnc hb)
  rw [hm] at HM
  have h4 : ¬ (k : Int) < 1 := by omega
  have h6 : ¬ 3 < (k : Int) := by omega
  clear hb hr hT hm hl hnc
  unfold LawV
  go_enter Tryz.func3, Tryz.ntmps3
  go_wp2_with (first | (go_at_call 7; refine HW.out.mono ?_; rintro e w1 ⟨b1, rfl⟩; have W2 := W1.below b1; clear i0 i1 i2 z0 z1 z2 il; obtain ⟨i0, i1, i2, z0, z1, z2, il⟩ := IB.all W2.I) | (go_at_call 8; refine (HR.out _).mono ?_; rintro e w3 ⟨rfl, b3⟩; have W3 := W2.below b3; clear i0 i1 i2 z0 z1 z2 il; obtain ⟨i0, i1, i2, z0, z1, z2, il⟩ := IB.all W3.I) | (go_at_call 9; refine (HM.out _ W3.D).mono ?_; rintro e w5 ⟨rfl, b5⟩) | (go_at_call 6; refine (awake13_any _).mono ?_; rintro e w4 ⟨rfl, b4⟩))
  go_ret
  exact ⟨rfl, below_next (below_next W3.B b5) b4⟩
theorem strOfV_list (l : List UInt8) : (strOf l).data.toList = l := by unfold strOf; simp
theorem strOfV_size (l : List UInt8) : (strOf l).size = l.length := by unfold strOf; simp [ByteArray.size]
/-- a file that is written is read -/
theorem encReadT {K W H n : Nat} {l : List UInt8} (hK : K = 1 ∨ K = 2 ∨ K = 3) (hr : RightP (W : Int) (H : Int) n) (hl : n = l.length) (hn : n ≤ 1000) (hW : W ≤ 100) (hH : H ≤ 100) (hm : mayAll K l (W * H) = true) (w : World) : Calls Tryz.prog 11 #[.string (strOf (encL K W H l)), .int .i64 100000] w fun e w' => ∃ g d, e = .returned (imgRet W H d n g) ∧ BytesAt w' (some ⟨d, 0, none⟩) n l ∧ Below w.heap.size w w' := by
  have hwh : 4 * (W * H) = n := by
    have := hr.2.2
    have e : 4 * (W : Int) * (H : Int) = ((4 * (W * H) : Nat) : Int) := by rw [Int.mul_assoc]; simp
    rw [e] at this
    omega
  have h1 := hr.1
  have h2 := hr.2.1
  have hlen := encT_len (W := W) (H := H) (l := l) hK
  obtain ⟨hh, ht⟩ := encTold (s := strOf (encL K W H l)) (by omega) (by omega) (by omega) (strOfV_list _) (by omega) (fun i hi => mayB_iff.1 (mayAll_all hm i hi))
  generalize hS : strOf (encL K W H l) = S at hh ht ⊢
  have hs : S.size ≤ 12 * (W * H) + 2 * H + W + 20 := by rw [← hS, strOfV_size]; exact hlen
  refine (readC13 (s := S) (x0 := Led.new 100 100 40000 100000) rfl (by constructor <;> decide) rfl rfl (by omega) hh (by show K ≤ 3; omega) hW hH w).mono ?_
  rintro e w' p
  obtain ⟨g, b, hor⟩ := lawFull hh hW hH (by show ((S.size + W * H * 7 + 9 : Nat) : Int) ≤ 100000; omega) p
  rcases hor with ⟨kk, aa, _, _, h, _⟩ | ⟨W', H', l', d, h, he, hb⟩
  · rw [ht] at h; cases h
  · rw [ht] at h
    injection h with e1 e2 e3
    subst e1 e2 e3
    rw [← hl] at he hb
    exact ⟨g, d, he, hb, b⟩
set_option maxRecDepth 100000 in
set_option maxHeartbeats 4000000 in
theorem law13_yes {W H k n c : Nat} {a : Option Addr} {l : List UInt8} {w : World} (hT : TabW w) (hb : BytesAt w a n l) (hl : n = l.length) (hnc : n ≤ c) (hn : n ≤ 1000) (hk : 1 ≤ k ∧ k ≤ 3) (hr : RightP (W : Int) (H : Int) n) (hWb : W ≤ 250) (hHb : H ≤ 250) (hm : mayAll k l (W * H) = true) : LawV (W : Int) (H : Int) n c a (k : Int) w := by
  have W1 : WlI w (w.alloc (.cells #[.int .i64 (W : Int), .int .i64 (H : Int), .slice a n c] 24)) (W : Int) (H : Int) n c a l := WlI.new hb
  obtain ⟨i0, i1, i2, z0, z1, z2, il⟩ := IB.all W1.I
  have hnI : ¬ (1000 : Int) < (n : Int) := by omega
  have HW := Lib.hid (textWriteC (K := k) (by omega) (hT.below W1.B) hr hl hnc W1.D (by omega) (by omega))
  rw [rawV_yes hm] at HW
  have HR := Lib.hid (fun w => refRight_bool (a := a) (c := c) (decide_eq_true hr) w)
  have HM := Lib.hid (fun (w : World) (hb : BytesAt w a n l) => refMayC (c := c) hk hr hl hnc hb)
  rw [hm] at HM
  have HWR := Lib.hid (fun (w : World) (hb : BytesAt w a n l) => refTextC (K := k) (by omega) hr hl hnc hb (by omega) (by omega))
  have HRD := Lib.hid (fun (hW : W ≤ 100) (hH : H ≤ 100) (w : World) => encReadT (K := k) (by omega) hr hl hn hW hH hm w)
  generalize strOf (encL k W H l) = S at HW HWR HRD
  unfold imgRet at HRD
  have h4 : ¬ (k : Int) < 1 := by omega
  have h6 : ¬ 3 < (k : Int) := by omega
  clear hb hr hT hm hl hnc 
  unfold LawV
  go_enter Tryz.func3, Tryz.ntmps3
  go_upto_region 12 with (first | (go_at_call 7; refine HW.out.mono ?_; rintro e w1 ⟨b1, rfl⟩; have W2 := W1.below b1; clear i0 i1 i2 z0 z1 z2 il; obtain ⟨i0, i1, i2, z0, z1, z2, il⟩ := IB.all W2.I) | (go_at_call 8; refine (HR.out _).mono ?_; rintro e w3 ⟨rfl, b3⟩; have W3 := W2.below b3; clear i0 i1 i2 z0 z1 z2 il; obtain ⟨i0, i1, i2, z0, z1, z2, il⟩ := IB.all W3.I) | (go_at_call 9; refine (HM.out _ W3.D).mono ?_; rintro e w5 ⟨rfl, b5⟩; have W5 := W3.below b5; clear i0 i1 i2 z0 z1 z2 il; obtain ⟨i0, i1, i2, z0, z1, z2, il⟩ := IB.all W5.I) | (go_at_call 10; refine (HWR.out _ W5.D).mono ?_; rintro e w6 ⟨b6, rfl⟩; have W6 := W5.below b6; clear i0 i1 i2 z0 z1 z2 il; obtain ⟨i0, i1, i2, z0, z1, z2, il⟩ := IB.all W6.I))
  clear W1 W2 W3 W5 b1 b3 b5 b6 HW HWR HR HM
  by_cases hbig : 100 < W ∨ 100 < H
  · by_cases hw : 100 < W
    · have hwI : (100 : Int) < (W : Int) := by omega
      clear HRD
      go_wp2_with (go_at_call 6; refine (awake13_any _).mono ?_; rintro e w7 ⟨rfl, b7⟩)
      go_ret
      exact ⟨rfl, below_next W6.B b7⟩
    · have hwI : ¬ (100 : Int) < (W : Int) := by omega
      have hhI : (100 : Int) < (H : Int) := by omega
      clear HRD
      go_wp2_with (go_at_call 6; refine (awake13_any _).mono ?_; rintro e w7 ⟨rfl, b7⟩)
      go_ret
      exact ⟨rfl, below_next W6.B b7⟩
  · have hwI : ¬ (100 : Int) < (W : Int) := by omega
    have hhI : ¬ (100 : Int) < (H : Int) := by omega
    have HRE := Lib.hid (HRD.out (by omega) (by omega))
    clear HRD hbig
    go_upto_region 15 with (go_at_call 11; refine (HRE.out _).mono ?_; rintro e w7 ⟨g, d, rfl, hbt, b7⟩)
    have X4 := ((W6.below b7).alloc (.cells #[.int .i64 (W : Int), .int .i64 (H : Int), .slice (some ⟨d, 0, none⟩) n n] 24)).alloc (.cells #[.int .i64 0, .int .i64 0, .int .i64 0] 33)
    have T4 : BytesAt ((w7.alloc (.cells #[.int .i64 (W : Int), .int .i64 (H : Int), .slice (some ⟨d, 0, none⟩) n n] 24)).alloc (.cells #[.int .i64 0, .int .i64 0, .int .i64 0] 33)) (some ⟨d, 0, none⟩) n l := (hbt.alloc _).alloc _
    have I4 : IB ((w7.alloc (.cells #[.int .i64 (W : Int), .int .i64 (H : Int), .slice (some ⟨d, 0, none⟩) n n] 24)).alloc (.cells #[.int .i64 0, .int .i64 0, .int .i64 0] 33)) w7.heap.size (W : Int) (H : Int) (some ⟨d, 0, none⟩) n n := Blk.alloc (Blk.new _ _ _) _
    have F4 : FB ((w7.alloc (.cells #[.int .i64 (W : Int), .int .i64 (H : Int), .slice (some ⟨d, 0, none⟩) n n] 24)).alloc (.cells #[.int .i64 0, .int .i64 0, .int .i64 0] 33)) (w7.heap.size + 1) 0 0 0 := Blk.new_at _ _ _ (by simp)
    clear hbt b7 W6 HRE i0 i1 i2 z0 z1 z2 il
    generalize (w7.alloc (.cells #[.int .i64 (W : Int), .int .i64 (H : Int), .slice (some ⟨d, 0, none⟩) n n] 24)).alloc (.cells #[.int .i64 0, .int .i64 0, .int .i64 0] 33) = w8 at X4 T4 I4 F4 ⊢
    generalize w7.heap.size + 1 = qf at F4 ⊢
    generalize w7.heap.size = qm at I4 ⊢
    obtain ⟨i0, i1, i2, z0, z1, z2, il⟩ := IB.all X4.I
    obtain ⟨e0, e1, e2, v0, v1, v2, il2⟩ := IB.all I4
    obtain ⟨c0, c1, c2, y0, y1, y2, fl⟩ := FB.all F4
    go_wp2_with (first | (go_at_call 12; refine (refSame_bool (same_self _ _ _) T4 X4.D).mono ?_; rintro e w9 ⟨rfl, b9⟩) | (go_at_call 6; refine (awake13_any _).mono ?_; rintro e w10 ⟨rfl, b10⟩))
    go_ret
    exact ⟨rfl, below_next (below_next X4.B b9) b10⟩
/-! ### what is laid -/
def laidLv : List (String × DataW Unit) := [("math/bits.deBruijn32tab", Rows.laid_math_bits_deBruijn32tab), ("math/bits.deBruijn64tab", Rows.laid_math_bits_deBruijn64tab), ("internal/strconv.uint64pow10", Rows.laid_internal_strconv_uint64pow10)]
theorem laid_oneV {W : World} (h : laidMetH Tryz.prog laidLv W) (n : String) (x : String × DataW Unit) (e : laidLv.filter (fun y => y.1 == n) = [x]) (hn : x.2.handleName?.isNone = true) : laidMet Tryz.prog [x] W := by
  have h1 := laidMetH.filter (fun y => y.1 == n) h
  rw [e, Go.MakeChecks.laidMetH_plain _ _ _ (by simp [hn])] at h1
  exact h1
theorem pnmtextWrites_law (w : World) (hL : laidMetH Tryz.prog laidLv w) (W H : Int) (a : Option Addr) (n c : Nat) (l : List UInt8) (h : fits5 W ∧ fits5 H ∧ BytesAt w a n l ∧ n ≤ c ∧ c ≤ maxLen) (k : Int) (hk : (Lit.int IntKind.i64 k).wf = true) : Calls Tryz.prog 3 #[.agg #[.int .i64 W, .int .i64 H, .slice a n c], .int .i64 k] w fun e w' => e = .returned (.bool true) ∧ Below w.heap.size w w' := by
  obtain ⟨_, _, hb, hnc, _⟩ := h
  have hT : TabW w := Lib.tabIs_of_head (g := 0) (t := 179) (e := 128) (n := 20) (by kernel_rfl) (by kernel_rfl) (by kernel_rfl) (by kernel_rfl) (by kernel_rfl) (by kernel_rfl) (laid_oneV hL "internal/strconv.uint64pow10" ("internal/strconv.uint64pow10", Lib.tabData .u64 Lib.pow10Tab) (by rfl) (by rfl))
  show LawV W H n c a k w
  have hl : n = l.length := hb.1
  by_cases hn : 1000 < n
  · exact law13_long hb hn
  · by_cases hka : k < 1 ∨ 3 < k
    · exact law13_arg hb (by omega) hka
    · by_cases hr : RightP W H n
      · have h1 := hr.1
        have h2 := hr.2.1
        obtain ⟨W', rfl⟩ : ∃ W' : Nat, W = (W' : Int) := ⟨W.toNat, by omega⟩
        obtain ⟨H', rfl⟩ : ∃ H' : Nat, H = (H' : Int) := ⟨H.toNat, by omega⟩
        obtain ⟨k', rfl⟩ : ∃ k' : Nat, k = (k' : Int) := ⟨k.toNat, by omega⟩
        have hwh : 4 * (W' * H') = n := by
          have := hr.2.2
          have e : 4 * (W' : Int) * (H' : Int) = ((4 * (W' * H') : Nat) : Int) := by rw [Int.mul_assoc]; simp
          rw [e] at this
          omega
        have hw1 : W' ≤ W' * H' := Nat.le_mul_of_pos_right _ (by omega)
        have hh1 : H' ≤ W' * H' := Nat.le_mul_of_pos_left _ (by omega)
        cases hm : mayAll k' l (W' * H') with
        | false => exact law13_no hT hb hl hnc (by omega) (by omega) hr (by omega) (by omega) hm
        | true => exact law13_yes hT hb hl hnc (by omega) (by omega) hr (by omega) (by omega) hm
      · exact law13_size hb (by omega) (by omega) hr
end Go.Proofs.YthljhebbblhakaaGreatDoor
