/- Writing PNM: what isn't written; the law's writers, joined. The bits' small functions: highest, its join, New, Align. bits.Read of one bit. Two bytes, the highest first: Src.Be16 by the ways. -/
import Derived.Test.YthljhebbblhakaaGreatDoorEPnmWi
import Derived.Test.YthljhebbblhakaaGreatDoorEPnmDocs
namespace Go.Proofs.YthljhebbblhakaaGreatDoor
open Go.RowKit
set_option linter.unusedVariables false
set_option linter.unusedSimpArgs false

set_option maxHeartbeats 2000000 in
theorem rawWrite_arg {k W H : Int} {a : Option Addr} {n c : Nat} {w : World} (hk : k < 4 ∨ 6 < k) : Calls Tryz.prog 14 #[.agg #[.int .i64 W, .int .i64 H, .slice a n c], .int .i64 k] w fun e w' => Below w.heap.size w w' ∧ e = .returned (.tuple #[.string ⟨#[]⟩, .int .i64 1]) := by
  have b : Below w.heap.size w (w.alloc (.cells #[.int .i64 W, .int .i64 H, .slice a n c] 24)) := (Below.refl _ _).alloc (Nat.le_refl _) _
  by_cases h : k < 4
  · clear hk
    go_enter Tryz.func14, Tryz.ntmps14
    go_wp2_with fail
    go_ret2
    exact ⟨b, rfl⟩
  · have h6 : 6 < k := by omega
    clear hk
    go_enter Tryz.func14, Tryz.ntmps14
    go_wp2_with fail
    go_ret2
    exact ⟨b, rfl⟩
set_option maxHeartbeats 2000000 in
theorem rawWrite_size {k W H : Int} {a : Option Addr} {n c : Nat} {w : World} (hk : 4 ≤ k ∧ k ≤ 6) (hr : ¬ RightP W H n) : Calls Tryz.prog 14 #[.agg #[.int .i64 W, .int .i64 H, .slice a n c], .int .i64 k] w fun e w' => Below w.heap.size w w' ∧ e = .returned (.tuple #[.string ⟨#[]⟩, .int .i64 11]) := by
  have b : Below w.heap.size w (w.alloc (.cells #[.int .i64 W, .int .i64 H, .slice a n c] 24)) := (Below.refl _ _).alloc (Nat.le_refl _) _
  have I0 : IB (w.alloc (.cells #[.int .i64 W, .int .i64 H, .slice a n c] 24)) w.heap.size W H a n c := Blk.new _ _ _
  obtain ⟨i0, i1, i2, z0, z1, z2, il⟩ := IB.all I0
  have h4 : ¬ k < 4 := by omega
  have h6 : ¬ 6 < k := by omega
  have HR := Lib.hid (fun w => right_bool (a := a) (c := c) (decide_eq_false hr) w)
  clear hr hk I0
  go_enter Tryz.func14, Tryz.ntmps14
  go_wp2_with (go_at_call 24; refine (HR.out _).mono ?_; rintro e w1 ⟨rfl, b1⟩)
  go_ret2
  exact ⟨below_next b b1, rfl⟩
theorem refWriteC {K : Nat} (hK : K = 4 ∨ K = 5 ∨ K = 6) {W H n c : Nat} {a : Option Addr} {l : List UInt8} {w : World} (hr : RightP (W : Int) (H : Int) n) (hl : n = l.length) (hnc : n ≤ c) (hb : BytesAt w a n l) (hWb : W ≤ 4000) (hHb : H ≤ 4000) (hm : mayAll K l (W * H) = true) : Calls Tryz.prog 15 #[.agg #[.int .i64 (W : Int), .int .i64 (H : Int), .slice a n c], .int .i64 (K : Int)] w fun e w' => Below w.heap.size w w' ∧ e = .returned (.string (strOf (encL K W H l))) := by
  rcases hK with h | h | h
  · exact refWrite_4 h hr hl hnc hb hWb hHb hm
  · exact refWrite_5 h hr hl hnc hb hWb hHb hm
  · exact refWrite_6 h hr hl hnc hb hWb hHb hm
theorem mayAll_shift (k : Nat) (hk : 1 ≤ k ∧ k ≤ 3) (l : List UInt8) (N : Nat) : mayAll (k + 3) l N = mayAll k l N := by
  unfold mayAll
  refine congrArg (List.all (List.range N)) (funext fun i => mayB_shift k hk _)
/-- how long a file is -/
theorem encL_len {K W H : Nat} {l : List UInt8} (hK : K = 4 ∨ K = 5 ∨ K = 6) : (encL K W H l).length ≤ 3 * (W * H) + 2 * H + W + 20 := by
  have h2 := encRows_len (W := W) hK (rowsOf l W H) (fun r hr => by
    obtain ⟨z, _, rfl⟩ := List.mem_map.1 hr
    exact rowOf_len l W z)
  have h3 : (rowsOf l W H).length = H := by unfold rowsOf; simp
  rw [h3, Nat.mul_add, Nat.mul_one, show H * (3 * W) = 3 * (W * H) by rw [Nat.mul_comm W H, ← Nat.mul_assoc, ← Nat.mul_assoc, Nat.mul_comm H 3]] at h2
  have h5 := hdr_len K W H
  have h6 := dec_size' W
  have h7 := dec_size' H
  have h8 : (dN W).length ≤ W + 1 := by rw [dg_len]; exact h6
  have h9 : (dN H).length ≤ H + 1 := by rw [dg_len]; exact h7
  unfold encL
  rw [List.length_append, h5]
  split <;> omega
end Go.Proofs.YthljhebbblhakaaGreatDoor
namespace Go.Proofs.YthljhebbblhakaaGreatDoor
open Go.RowKit
set_option linter.unusedVariables false
set_option linter.unusedSimpArgs false

theorem and_one (v : Nat) (hv : v < 4294967296) : bits .and .i64 (v : Int) 1 = ((v % 2 : Nat) : Int) := and_mask v 1 (by omega) (by decide)
theorem highest1 (b : Nat) (hb : b < 256) (w : World) : Calls Tryz.prog 110 #[.int .i64 (b : Int), .int .i64 1] w fun e w' => e = .returned (.int .i64 ((b / 1 % 2 : Nat) : Int)) ∧ w = w' := by
  have hbI : (b : Int) < 256 := by omega
  have h := and_one (b / 1) (by omega)
  rw [Int.natCast_ediv] at h
  have h' : bits .and .i64 ((b : Int)) 1 = ((b / 1 % 2 : Nat) : Int) := by simpa using h
  go_enter Tryz.func110, Tryz.ntmps110
  go_wp2_with fail
  go_ret
  exact ⟨by first | rfl | (rw [← h']; rfl) | exact congrArg (fun z => Ending.returned (Value.int .i64 z)) (show (b : Int) % 2 = ((b / 1 % 2 : Nat) : Int) by omega), rfl⟩
theorem highest2 (b : Nat) (hb : b < 256) (w : World) : Calls Tryz.prog 110 #[.int .i64 (b : Int), .int .i64 2] w fun e w' => e = .returned (.int .i64 ((b / 2 % 2 : Nat) : Int)) ∧ w = w' := by
  have hbI : (b : Int) < 256 := by omega
  have h := and_one (b / 2) (by omega)
  rw [Int.natCast_ediv] at h
  have h' : bits .and .i64 ((b : Int) / 2) 1 = ((b / 2 % 2 : Nat) : Int) := by exact h
  go_enter Tryz.func110, Tryz.ntmps110
  go_wp2_with fail
  go_ret
  exact ⟨by first | rfl | (rw [← h']; rfl) | exact congrArg (fun z => Ending.returned (Value.int .i64 z)) (show (b : Int) % 2 = ((b / 1 % 2 : Nat) : Int) by omega), rfl⟩
theorem highest3 (b : Nat) (hb : b < 256) (w : World) : Calls Tryz.prog 110 #[.int .i64 (b : Int), .int .i64 3] w fun e w' => e = .returned (.int .i64 ((b / 4 % 2 : Nat) : Int)) ∧ w = w' := by
  have hbI : (b : Int) < 256 := by omega
  have h := and_one (b / 4) (by omega)
  rw [Int.natCast_ediv] at h
  have h' : bits .and .i64 ((b : Int) / 4) 1 = ((b / 4 % 2 : Nat) : Int) := by exact h
  go_enter Tryz.func110, Tryz.ntmps110
  go_wp2_with fail
  go_ret
  exact ⟨by first | rfl | (rw [← h']; rfl) | exact congrArg (fun z => Ending.returned (Value.int .i64 z)) (show (b : Int) % 2 = ((b / 1 % 2 : Nat) : Int) by omega), rfl⟩
theorem highest4 (b : Nat) (hb : b < 256) (w : World) : Calls Tryz.prog 110 #[.int .i64 (b : Int), .int .i64 4] w fun e w' => e = .returned (.int .i64 ((b / 8 % 2 : Nat) : Int)) ∧ w = w' := by
  have hbI : (b : Int) < 256 := by omega
  have h := and_one (b / 8) (by omega)
  rw [Int.natCast_ediv] at h
  have h' : bits .and .i64 ((b : Int) / 8) 1 = ((b / 8 % 2 : Nat) : Int) := by exact h
  go_enter Tryz.func110, Tryz.ntmps110
  go_wp2_with fail
  go_ret
  exact ⟨by first | rfl | (rw [← h']; rfl) | exact congrArg (fun z => Ending.returned (Value.int .i64 z)) (show (b : Int) % 2 = ((b / 1 % 2 : Nat) : Int) by omega), rfl⟩
theorem highest5 (b : Nat) (hb : b < 256) (w : World) : Calls Tryz.prog 110 #[.int .i64 (b : Int), .int .i64 5] w fun e w' => e = .returned (.int .i64 ((b / 16 % 2 : Nat) : Int)) ∧ w = w' := by
  have hbI : (b : Int) < 256 := by omega
  have h := and_one (b / 16) (by omega)
  rw [Int.natCast_ediv] at h
  have h' : bits .and .i64 ((b : Int) / 16) 1 = ((b / 16 % 2 : Nat) : Int) := by exact h
  go_enter Tryz.func110, Tryz.ntmps110
  go_wp2_with fail
  go_ret
  exact ⟨by first | rfl | (rw [← h']; rfl) | exact congrArg (fun z => Ending.returned (Value.int .i64 z)) (show (b : Int) % 2 = ((b / 1 % 2 : Nat) : Int) by omega), rfl⟩
theorem highest6 (b : Nat) (hb : b < 256) (w : World) : Calls Tryz.prog 110 #[.int .i64 (b : Int), .int .i64 6] w fun e w' => e = .returned (.int .i64 ((b / 32 % 2 : Nat) : Int)) ∧ w = w' := by
  have hbI : (b : Int) < 256 := by omega
  have h := and_one (b / 32) (by omega)
  rw [Int.natCast_ediv] at h
  have h' : bits .and .i64 ((b : Int) / 32) 1 = ((b / 32 % 2 : Nat) : Int) := by exact h
  go_enter Tryz.func110, Tryz.ntmps110
  go_wp2_with fail
  go_ret
  exact ⟨by first | rfl | (rw [← h']; rfl) | exact congrArg (fun z => Ending.returned (Value.int .i64 z)) (show (b : Int) % 2 = ((b / 1 % 2 : Nat) : Int) by omega), rfl⟩
theorem highest7 (b : Nat) (hb : b < 256) (w : World) : Calls Tryz.prog 110 #[.int .i64 (b : Int), .int .i64 7] w fun e w' => e = .returned (.int .i64 ((b / 64 % 2 : Nat) : Int)) ∧ w = w' := by
  have hbI : (b : Int) < 256 := by omega
  have h := and_one (b / 64) (by omega)
  rw [Int.natCast_ediv] at h
  have h' : bits .and .i64 ((b : Int) / 64) 1 = ((b / 64 % 2 : Nat) : Int) := by exact h
  go_enter Tryz.func110, Tryz.ntmps110
  go_wp2_with fail
  go_ret
  exact ⟨by first | rfl | (rw [← h']; rfl) | exact congrArg (fun z => Ending.returned (Value.int .i64 z)) (show (b : Int) % 2 = ((b / 1 % 2 : Nat) : Int) by omega), rfl⟩
theorem highest8 (b : Nat) (hb : b < 256) (w : World) : Calls Tryz.prog 110 #[.int .i64 (b : Int), .int .i64 8] w fun e w' => e = .returned (.int .i64 ((b / 128 % 2 : Nat) : Int)) ∧ w = w' := by
  have hbI : (b : Int) < 256 := by omega
  have h := and_one (b / 128) (by omega)
  rw [Int.natCast_ediv] at h
  have h' : bits .and .i64 ((b : Int) / 128) 1 = ((b / 128 % 2 : Nat) : Int) := by exact h
  go_enter Tryz.func110, Tryz.ntmps110
  go_wp2_with fail
  go_ret
  exact ⟨by first | rfl | (rw [← h']; rfl) | exact congrArg (fun z => Ending.returned (Value.int .i64 z)) (show (b : Int) % 2 = ((b / 1 % 2 : Nat) : Int) by omega), rfl⟩
theorem highestC {b lf : Nat} (hb : b < 256) (h1 : 1 ≤ lf) (h8 : lf ≤ 8) (w : World) : Calls Tryz.prog 110 #[.int .i64 (b : Int), .int .i64 (lf : Int)] w fun e w' => e = .returned (.int .i64 ((b / 2 ^ (lf - 1) % 2 : Nat) : Int)) ∧ w = w' := by
  have h : lf = 1 ∨ lf = 2 ∨ lf = 3 ∨ lf = 4 ∨ lf = 5 ∨ lf = 6 ∨ lf = 7 ∨ lf = 8 := by omega
  rcases h with rfl | rfl | rfl | rfl | rfl | rfl | rfl | rfl
  · exact highest1 b hb w
  · exact highest2 b hb w
  · exact highest3 b hb w
  · exact highest4 b hb w
  · exact highest5 b hb w
  · exact highest6 b hb w
  · exact highest7 b hb w
  · exact highest8 b hb w
theorem joinC {v : Nat} (hv : v ≤ 1) (w : World) : Calls Tryz.prog 111 #[.int .i64 0, .int .i64 (v : Int), .int .i64 0] w fun e w' => e = .returned (.int .i64 (v : Int)) ∧ w = w' := by
  have hvI : (v : Int) ≤ 1 := by omega
  have h := or64 0 v (by omega) (by omega)
  rw [Nat.zero_or] at h
  have h' : bits .or .i64 0 (v : Int) = (v : Int) := h
  go_enter Tryz.func111, Tryz.ntmps111
  go_wp2_with fail
  go_ret
  exact ⟨by first | rfl | (show Ending.returned (Value.int .i64 (bits .or .i64 0 (v : Int))) = _; rw [h']), rfl⟩
/-- a reader of bits: the byte and how many bits of it are left -/
def BiA (w : World) (b p : Nat) (now left : Nat) : Prop := Blk w b 177 #[.pointer (some ⟨p, 0, none⟩), .int .i64 (now : Int), .int .i64 (left : Int), .func (.func 110) #[] #[], .func (.func 111) #[] #[]]
theorem bitsNewC {w : World} {p : Nat} : Calls Tryz.prog 85 #[.pointer (some ⟨p, 0, none⟩), .bool false] w fun e w' => ∃ b, e = .returned (.tuple #[.pointer (some ⟨b, 0, none⟩), .int .i64 0]) ∧ w.heap.size ≤ b ∧ BiA w' b p 0 0 ∧ Below w.heap.size w w' := by
  go_enter Tryz.func85, Tryz.ntmps85
  go_wp2_with fail
  go_ret2
  exact ⟨_, rfl, Nat.le_refl _, Blk.new _ _ _, (Below.refl _ _).alloc (Nat.le_refl _) _⟩
theorem bitsAlignC {w : World} {b p now left : Nat} (h : BiA w b p now left) : Calls Tryz.prog 88 #[.pointer (some ⟨b, 0, none⟩)] w fun e w' => e = .returned (.int .i64 (left : Int)) ∧ BiA w' b p now 0 ∧ Turn [b] w w' := by
  have c2 : w.cell? ⟨b, 2, none⟩ = some (.int .i64 (left : Int)) := Blk.cell h 2
  have z2 : w.frozen? ⟨b, 2, none⟩ = false := Blk.frozen h 2
  have hl := Blk.lt h
  have HB := Lib.hid h
  clear h
  go_enter Tryz.func88, Tryz.ntmps88
  go_wp2_with fail
  go_ret
  exact ⟨rfl, (Blk.set_ HB.out 2 _).eq_ (by simp), (Turn.refl _ _).set_ 2 _ (.inl (by simp))⟩
end Go.Proofs.YthljhebbblhakaaGreatDoor
namespace Go.Proofs.YthljhebbblhakaaGreatDoor
open Go.RowKit
set_option linter.unusedVariables false
set_option linter.unusedSimpArgs false

set_option maxRecDepth 100000 in
set_option maxHeartbeats 2000000 in
theorem bitsRead_left {w : World} {b p now lf : Nat} (h : BiA w b p now (lf + 1)) (hb : now < 256) (h8 : lf + 1 ≤ 8) : Calls Tryz.prog 86 #[.pointer (some ⟨b, 0, none⟩), .int .i64 1] w fun e w' => e = .returned (.tuple #[.int .i64 ((now / 2 ^ lf % 2 : Nat) : Int), .bool true]) ∧ BiA w' b p now lf ∧ Turn [b] w w' := by
  have HH0 : ∀ w : World, Calls Tryz.prog 110 #[.int .i64 (now : Int), .int .i64 ((lf + 1 : Nat) : Int)] w fun e w' => e = .returned (.int .i64 ((now / 2 ^ lf % 2 : Nat) : Int)) ∧ w = w' := fun w => highestC hb (Nat.succ_pos lf) h8 w
  obtain ⟨v, hv⟩ : ∃ v, now / 2 ^ lf % 2 = v := ⟨_, rfl⟩
  rw [hv] at HH0 ⊢
  have hv1 : v ≤ 1 := by omega
  have HJ0 := fun w => joinC hv1 w
  obtain ⟨l1, hl1⟩ : ∃ l1, lf + 1 = l1 := ⟨_, rfl⟩
  rw [hl1] at h HH0 h8
  have hl0 : ¬ (l1 : Int) = 0 := by omega
  have hlq : ((l1 : Int) == 0) = false := beq_eq_false_iff_ne.2 hl0
  have hls : (l1 : Int) - 1 = (lf : Int) := by omega
  have hlI : (l1 : Int) ≤ 8 := by omega
  have hlI1 : (1 : Int) ≤ (l1 : Int) := by omega
  have HH := Lib.hid HH0
  have HJ := Lib.hid HJ0
  have HB := Lib.hid h
  clear HH0 HJ0 hv hb hl1 h8 hv1
  obtain ⟨c0, c1, c2, c3, c4⟩ : w.cell? ⟨b, 0, none⟩ = some (.pointer (some ⟨p, 0, none⟩)) ∧ w.cell? ⟨b, 1, none⟩ = some (.int .i64 (now : Int)) ∧ w.cell? ⟨b, 2, none⟩ = some (.int .i64 (l1 : Int)) ∧ w.cell? ⟨b, 3, none⟩ = some (.func (.func 110) #[] #[]) ∧ w.cell? ⟨b, 4, none⟩ = some (.func (.func 111) #[] #[]) := ⟨Blk.cell h 0, Blk.cell h 1, Blk.cell h 2, Blk.cell h 3, Blk.cell h 4⟩
  have z2 : w.frozen? ⟨b, 2, none⟩ = false := Blk.frozen h 2
  have hbl := Blk.lt h
  clear h
  go_enter Tryz.func86, Tryz.ntmps86
  go_wp2_with fail
  go_loopg [6, 7, 8, 9, 17] 1 (fun k v6 v7 v8 v9 v17 wr => (k = 1 ∧ v6 = .int .i64 0 ∧ v17 = .int .i64 0 ∧ w = wr) ∨ (k = 0 ∧ v6 = .int .i64 (v : Int) ∧ v17 = .int .i64 1 ∧ Hid (BiA wr b p now lf ∧ Turn [b] w wr)))
  case atStart => exact .inl ⟨rfl, rfl, rfl, rfl⟩
  case round =>
    obtain ⟨rfl, rfl, rfl, rfl⟩ | ⟨rfl, rfl, rfl, HZ⟩ := hrel
    · go_upto_region 12 with fail
      go_quiet ((first | (go_at_call 110; exact Calls.quiet_of_same ((HH.out _).mono fun _ _ ⟨h, k⟩ => ⟨h, k.symm⟩)) | (go_at_call 111; exact Calls.quiet_of_same ((HJ.out _).mono fun _ _ ⟨h, k⟩ => ⟨h, k.symm⟩))))
      all_goals go_wp2_with fail
      go_roundg 0
      case measure => omega
      case rel =>
        refine .inr ⟨rfl, rfl, rfl, Lib.hid ⟨(Blk.set_ (by first | exact Blk.drewN HB.out _ | exact Blk.drew HB.out) 2 _).eq_ (by simp), ?_⟩⟩
        refine Turn.set_ (S := [b]) ?_ 2 _ (.inl (List.mem_singleton.2 rfl))
        exact ⟨rfl, rfl, rfl, Nat.le_refl _, fun _ _ _ => rfl⟩
    · clear c0 c1 c2 c3 c4 z2 hbl HB
      go_wp2_with fail
      go_ret2
      exact ⟨rfl, HZ.out.1, HZ.out.2⟩
/-- what a bit of a new byte leaves -/
def BitPost (w w' : World) (p g b : Nat) (s : ByteArray) (now a : Nat) (y : Led) (e : Ending) : Prop :=
  ∃ y2, LedAt w' g y2 ∧ y2.Ok ∧ y2.bytes = y.bytes ∧ Turn [p, g, b] w w' ∧
    ((∃ kk aa, e = .returned (.tuple #[.int .i64 0, .bool false]) ∧ SrcAt w' p g s 0 s.size a ∧ NoRead y2 a s.size kk aa ∧ NoRun y y2 a s.size (a + 1 ≤ s.size) kk aa ∧ BiA w' b p now 0) ∨
     (e = .returned (.tuple #[.int .i64 ((bat s a / 2 ^ 7 % 2 : Nat) : Int), .bool true]) ∧ SrcAt w' p g s 0 s.size (a + 1) ∧ y2.reason = 0 ∧ a + 1 ≤ s.size ∧ y.work 1 = (y2, true) ∧ BiA w' b p (bat s a) 7))
set_option maxRecDepth 100000 in
set_option maxHeartbeats 2000000 in
theorem bitsRead_new {w : World} {p g b now a : Nat} {s : ByteArray} {y : Led} (h : BiA w b p now 0) (S : SrcAt w p g s 0 s.size a) (o : SrcOk s 0 s.size a) (G : LedAt w g y) (ok : y.Ok) (hy : y.reason = 0) : Calls Tryz.prog 86 #[.pointer (some ⟨b, 0, none⟩), .int .i64 1] w fun e w' => BitPost w w' p g b s now a y e := by
  have HRD0 := srcU8_ways S o G ok hy
  unfold ReadPost at HRD0
  have HRD := Lib.hid HRD0
  have hbp : b ≠ p := Blk.ne_ h S (by decide)
  have hbg : b ≠ g := Blk.ne_ h G (by decide)
  obtain ⟨n, hn⟩ : ∃ n, bat s a = n := ⟨_, rfl⟩
  have hb : n < 256 := hn ▸ bat_lt s a
  have HH0 : ∀ w : World, Calls Tryz.prog 110 #[.int .i64 (n : Int), .int .i64 8] w fun e w' => e = .returned (.int .i64 ((n / 2 ^ 7 % 2 : Nat) : Int)) ∧ w = w' := fun w => highestC (lf := 8) hb (by decide) (by decide) w
  obtain ⟨v, hv⟩ : ∃ v, n / 2 ^ 7 % 2 = v := ⟨_, rfl⟩
  unfold BitPost
  rw [hn, hv]
  rw [hv] at HH0
  rw [hn] at HRD
  have hv1 : v ≤ 1 := by omega
  have HJ0 := fun w => joinC hv1 w
  have HH := Lib.hid HH0
  have HJ := Lib.hid HJ0
  have HB := Lib.hid h
  clear HH0 HJ0 hv hb hv1 hn HRD0 S G o ok hy
  have c0 : w.cell? ⟨b, 0, none⟩ = some (.pointer (some ⟨p, 0, none⟩)) := Blk.cell h 0
  have c2 : w.cell? ⟨b, 2, none⟩ = some (.int .i64 0) := Blk.cell h 2
  clear h
  go_enter Tryz.func86, Tryz.ntmps86
  go_wp2_with fail
  go_loopg [6, 7, 8, 9, 17] 1 (fun k v6 v7 v8 v9 v17 wr => (k = 1 ∧ v6 = .int .i64 0 ∧ v17 = .int .i64 0 ∧ w = wr) ∨ (k = 0 ∧ v6 = .int .i64 (v : Int) ∧ v17 = .int .i64 1 ∧ ∃ y2, Hid (LedAt wr g y2 ∧ y2.Ok ∧ y2.bytes = y.bytes ∧ Turn [p, g, b] w wr ∧ SrcAt wr p g s 0 s.size (a + 1) ∧ y2.reason = 0 ∧ a + 1 ≤ s.size ∧ y.work 1 = (y2, true) ∧ BiA wr b p n 7)))
  case atStart => exact .inl ⟨rfl, rfl, rfl, rfl⟩
  case round =>
    obtain ⟨rfl, rfl, rfl, rfl⟩ | ⟨rfl, rfl, rfl, y2, HZ⟩ := hrel
    · go_upto_region 9 with (go_at_call 69; refine HRD.out.mono ?_; rintro e w2 ⟨y2, g2, ok2, yb2, t2, hor⟩; rcases hor with ⟨kk, aa, rfl, s2, nr, run⟩ | ⟨rfl, s2, yr2, hle, hwk⟩)
      · clear c0 c2
        go_wp2_with fail
        go_ret2
        exact ⟨y2, g2, ok2, yb2, t2.mono (by simp), .inl ⟨kk, aa, rfl, s2, nr, run, Blk.turn HB.out t2 (by simp only [List.mem_cons, List.not_mem_nil, or_false, not_or]; exact ⟨hbp, hbg⟩)⟩⟩
      · have B2 : BiA w2 b p now 0 := Blk.turn HB.out t2 (by simp only [List.mem_cons, List.not_mem_nil, or_false, not_or]; exact ⟨hbp, hbg⟩)
        have k1 : w2.cell? ⟨b, 1, none⟩ = some (.int .i64 (now : Int)) := Blk.cell B2 1
        have k2 : w2.cell? ⟨b, 2, none⟩ = some (.int .i64 0) := Blk.cell B2 2
        have z1 : w2.frozen? ⟨b, 1, none⟩ = false := Blk.frozen B2 1
        have z2 : w2.frozen? ⟨b, 2, none⟩ = false := Blk.frozen B2 2
        have hbl := Blk.lt B2
        have HK := Lib.hid (And.intro B2 (And.intro g2 (And.intro ok2 (And.intro yb2 (And.intro t2 (And.intro s2 (And.intro yr2 (And.intro hle hwk))))))))
        clear c0 c2 B2 g2 ok2 yb2 t2 s2 yr2 hle hwk HB HRD
        go_upto_region 12 with fail
        refine pwp_gen (w := (w2.setCell ⟨b, 1, none⟩ (.int .i64 (n : Int))).setCell ⟨b, 2, none⟩ (.int .i64 8)) (S := fun wx => Hid (BiA wx b p n 8 ∧ LedAt wx g y2 ∧ SrcAt wx p g s 0 s.size (a + 1) ∧ Turn [p, g, b] w wx)) (Lib.hid ⟨(Blk.set_ ((Blk.set_ HK.out.1 1 _)) 2 _).eq_ (by simp), Blk.far (Blk.far HK.out.2.1 (p := ⟨b, 1, none⟩) hbg.symm _) (p := ⟨b, 2, none⟩) hbg.symm _, Blk.far (Blk.far HK.out.2.2.2.2.2.1 (p := ⟨b, 1, none⟩) hbp.symm _) (p := ⟨b, 2, none⟩) hbp.symm _, Turn.set_ (Turn.set_ (HK.out.2.2.2.2.1.mono (by simp)) 1 _ (.inl (by simp))) 2 _ (.inl (by simp))⟩) (fun wx hX => ?_)
        clear z1 z2 hbl k1 k2
        obtain ⟨c0, c1, c2, c3, c4⟩ : wx.cell? ⟨b, 0, none⟩ = some (.pointer (some ⟨p, 0, none⟩)) ∧ wx.cell? ⟨b, 1, none⟩ = some (.int .i64 (n : Int)) ∧ wx.cell? ⟨b, 2, none⟩ = some (.int .i64 8) ∧ wx.cell? ⟨b, 3, none⟩ = some (.func (.func 110) #[] #[]) ∧ wx.cell? ⟨b, 4, none⟩ = some (.func (.func 111) #[] #[]) := ⟨Blk.cell hX.out.1 0, Blk.cell hX.out.1 1, Blk.cell hX.out.1 2, Blk.cell hX.out.1 3, Blk.cell hX.out.1 4⟩
        have z2 : wx.frozen? ⟨b, 2, none⟩ = false := Blk.frozen hX.out.1 2
        have hbl := Blk.lt hX.out.1
        go_quiet ((first | (go_at_call 110; exact Calls.quiet_of_same ((HH.out _).mono fun _ _ ⟨h, k⟩ => ⟨h, k.symm⟩)) | (go_at_call 111; exact Calls.quiet_of_same ((HJ.out _).mono fun _ _ ⟨h, k⟩ => ⟨h, k.symm⟩))))
        all_goals go_wp2_with fail
        go_roundg 0
        case measure => omega
        case rel =>
          refine .inr ⟨rfl, rfl, rfl, y2, Lib.hid ⟨?_, HK.out.2.2.1, HK.out.2.2.2.1, ?_, ?_, HK.out.2.2.2.2.2.2.1, HK.out.2.2.2.2.2.2.2.1, HK.out.2.2.2.2.2.2.2.2, (Blk.set_ (by first | exact Blk.drewN hX.out.1 _ | exact Blk.drew hX.out.1) 2 _).eq_ (by simp)⟩⟩
          · exact Blk.far (by first | exact Blk.drewN hX.out.2.1 _ | exact Blk.drew hX.out.2.1) (p := ⟨b, 2, none⟩) hbg.symm _
          · refine Turn.set_ (S := [p, g, b]) ?_ 2 _ (.inl (by simp))
            first | exact hX.out.2.2.2.drewN _ | exact hX.out.2.2.2.drew
          · exact Blk.far (by first | exact Blk.drewN hX.out.2.2.1 _ | exact Blk.drew hX.out.2.2.1) (p := ⟨b, 2, none⟩) hbp.symm _
    · clear c0 c2 HB HRD
      go_wp2_with fail
      go_ret2
      exact ⟨y2, HZ.out.1, HZ.out.2.1, HZ.out.2.2.1, HZ.out.2.2.2.1, .inr ⟨rfl, HZ.out.2.2.2.2⟩⟩
end Go.Proofs.YthljhebbblhakaaGreatDoor
namespace Go.Proofs.YthljhebbblhakaaGreatDoor
open Go.RowKit
set_option linter.unusedVariables false
set_option linter.unusedSimpArgs false

theorem srcNum_two (c d : UInt8) (w : World) : Calls Tryz.prog 121 #[.string (strOf [c, d]), .bool false] w fun e w' => e = .returned (.int .i64 ((c.toNat * 256 + d.toNat : Nat) : Int)) ∧ w = w' := by
  have hz : (strOf [c, d]).size = 2 := rfl
  have hlt := UInt8.toNat_lt c
  have hlt2 := UInt8.toNat_lt d
  have hv1 : bits BinOp.or IntKind.i64 0 (wrap64 (((strOf [c, d])[0].toNat : Nat) : Int)) = (c.toNat : Int) := by
    show bits BinOp.or IntKind.i64 0 (wrap64 (c.toNat : Int)) = (c.toNat : Int)
    rw [wrap64_id (c.toNat : Int) (by omega) (by omega)]
    have := or64 0 c.toNat (by omega) (by omega)
    rw [Nat.zero_or] at this
    exact this
  have hv2 : bits BinOp.or IntKind.i64 ((c.toNat : Int) * 256) (wrap64 (((strOf [c, d])[1].toNat : Nat) : Int)) = ((c.toNat * 256 + d.toNat : Nat) : Int) := by
    show bits BinOp.or IntKind.i64 ((c.toNat : Int) * 256) (wrap64 (d.toNat : Int)) = _
    rw [wrap64_id (d.toNat : Int) (by omega) (by omega)]
    have h := or64 (c.toNat * 256) d.toNat (by omega) (by omega)
    have e : c.toNat * 256 ||| d.toNat = c.toNat * 256 + d.toNat := by
      rw [Nat.mul_comm]
      exact (Nat.two_pow_add_eq_or_of_lt (i := 8) hlt2 c.toNat).symm
    rw [e, Int.natCast_mul] at h
    exact h
  go_enter Tryz.func121, Tryz.ntmps121
  go_wp2_with fail
  go_loopg [5, 6, 9] 2 (fun k v i j wr => ((k = 2 ∧ v = .int .i64 0 ∧ j = .int .i64 0) ∨ (k = 1 ∧ v = .int .i64 (c.toNat : Int) ∧ j = .int .i64 1) ∨ (k = 0 ∧ v = .int .i64 ((c.toNat * 256 + d.toNat : Nat) : Int) ∧ j = .int .i64 2)) ∧ w = wr)
  case atStart => exact ⟨.inl ⟨rfl, rfl, rfl⟩, rfl⟩
  case round =>
    obtain ⟨⟨rfl, rfl, rfl⟩ | ⟨rfl, rfl, rfl⟩ | ⟨rfl, rfl, rfl⟩, rfl⟩ := hrel
    · go_wp2_with fail
      go_roundg 1
      case measure => omega
      case rel => exact ⟨.inr (.inl ⟨rfl, vint (by omega), rfl⟩), rfl⟩
    · go_wp2_with fail
      go_roundg 0
      case measure => omega
      case rel => exact ⟨.inr (.inr ⟨rfl, vint (by omega), rfl⟩), rfl⟩
    · go_wp2_with fail
      go_ret
      exact ⟨rfl, rfl⟩
theorem extract_bat2 {s : ByteArray} {k : Nat} (h : k + 1 < s.size) : s.extract k (k + 2) = strOf [UInt8.ofNat (bat s k), UInt8.ofNat (bat s (k + 1))] := by
  have e : s.extract k (k + 2) = s.extract k (k + 1) ++ s.extract (k + 1) (k + 1 + 1) := by
    rw [ByteArray.extract_append_extract]
    congr 1
    · omega
    · omega
  rw [e, extract_bat (by omega), extract_bat h]
  rfl
section
variable {w w' : World} {p g : Nat} {s : ByteArray} {f t a : Nat} {x y : Led}
theorem srcBe16_spent (h : SrcAt w p g s f t a) (k : LedAt w g x) (ok : x.Ok) (e : x.work 1 = (y, false)) :
    Calls Tryz.prog 114 #[.pointer (some ⟨p, 0, none⟩)] w fun e w' => e = .returned (.tuple #[.int .i64 0, .bool false]) ∧ SrcAt w' p g s f t a ∧ LedAt w' g y ∧ Turn [p, g] w w' := by
  have HN := Lib.hid (srcNext_spent 2 h k ok e)
  clear h k ok e
  go_enter Tryz.func114, Tryz.ntmps114
  go_wp2_with fail
  have hr : Calls Tryz.prog 95 #[.pointer (some ⟨p, 0, none⟩), .int .i64 2, .bool false] w fun e w' => e = .returned (.tuple #[.int .i64 0, .bool false]) ∧ SrcAt w' p g s f t a ∧ LedAt w' g y ∧ Turn [p, g] w w' := by
    go_enter Tryz.func95, Tryz.ntmps95
    go_wp2_with (first
      | (go_at_call 120; refine HN.out.mono ?_; rintro e w1 ⟨rfl, q1, q2, q3⟩)
      | (go_at_call 121; refine (srcNum_nil _ _).mono ?_; rintro e w2 ⟨rfl, rfl⟩))
    go_ret2
    exact ⟨rfl, q1, q2, q3⟩
  refine hr.mono ?_
  rintro e w1 ⟨rfl, q1, q2, q3⟩
  go_wp2_with fail
  go_ret2
  exact ⟨rfl, q1, q2, q3⟩
theorem srcBe16_short (h : SrcAt w p g s f t a) (o : SrcOk s f t a) (k : LedAt w g x) (ok : x.Ok) (e : x.work 1 = (y, true)) (ha : ¬ a + 2 ≤ t) :
    Calls Tryz.prog 114 #[.pointer (some ⟨p, 0, none⟩)] w fun e w' => e = .returned (.tuple #[.int .i64 0, .bool false]) ∧ SrcAt w' p g s f t a ∧ LedAt w' g y ∧ Turn [p, g] w w' := by
  have HN := Lib.hid (srcNext_short 2 h o k ok e (by have := o.at_; omega))
  clear h k ok e
  go_enter Tryz.func114, Tryz.ntmps114
  go_wp2_with fail
  have hr : Calls Tryz.prog 95 #[.pointer (some ⟨p, 0, none⟩), .int .i64 2, .bool false] w fun e w' => e = .returned (.tuple #[.int .i64 0, .bool false]) ∧ SrcAt w' p g s f t a ∧ LedAt w' g y ∧ Turn [p, g] w w' := by
    go_enter Tryz.func95, Tryz.ntmps95
    go_wp2_with (first
      | (go_at_call 120; refine HN.out.mono ?_; rintro e w1 ⟨rfl, q1, q2, q3⟩)
      | (go_at_call 121; refine (srcNum_nil _ _).mono ?_; rintro e w2 ⟨rfl, rfl⟩))
    go_ret2
    exact ⟨rfl, q1, q2, q3⟩
  refine hr.mono ?_
  rintro e w1 ⟨rfl, q1, q2, q3⟩
  go_wp2_with fail
  go_ret2
  exact ⟨rfl, q1, q2, q3⟩
theorem srcBe16_yes (h : SrcAt w p g s f t a) (o : SrcOk s f t a) (k : LedAt w g x) (ok : x.Ok) (e : x.work 1 = (y, true)) (ha : a + 2 ≤ t) :
    Calls Tryz.prog 114 #[.pointer (some ⟨p, 0, none⟩)] w fun e w' => e = .returned (.tuple #[.int .i64 (beN s a 2 : Int), .bool true]) ∧ SrcAt w' p g s f t (a + 2) ∧ LedAt w' g y ∧ Turn [p, g] w w' := by
  have HN := Lib.hid (srcNext_yes 2 h o k ok e (by omega))
  have hts := o.ts
  have hx := extract_bat2 (s := s) (k := a) (by omega)
  rw [hx] at HN
  have hc : (((UInt8.ofNat (bat s a)).toNat * 256 + (UInt8.ofNat (bat s (a + 1))).toNat : Nat) : Int) = (beN s a 2 : Int) := by
    have h1 : ((UInt8.ofNat (bat s a)).toNat : Int) = (bat s a : Int) := ofNat8 (bat_lt s a)
    have h2 : ((UInt8.ofNat (bat s (a + 1))).toNat : Int) = (bat s (a + 1) : Int) := ofNat8 (bat_lt s (a + 1))
    show _ = (((0 * 256 + bat s (a + 0)) * 256 + bat s (a + 1) : Nat) : Int)
    simp only [Nat.add_zero, Nat.zero_mul, Nat.zero_add]
    omega
  clear h k ok e hx
  go_enter Tryz.func114, Tryz.ntmps114
  go_wp2_with fail
  have hr : Calls Tryz.prog 95 #[.pointer (some ⟨p, 0, none⟩), .int .i64 2, .bool false] w fun e w' => e = .returned (.tuple #[.int .i64 (beN s a 2 : Int), .bool true]) ∧ SrcAt w' p g s f t (a + 2) ∧ LedAt w' g y ∧ Turn [p, g] w w' := by
    go_enter Tryz.func95, Tryz.ntmps95
    go_wp2_with (first
      | (go_at_call 120; refine HN.out.mono ?_; rintro e w1 ⟨rfl, q1, q2, q3⟩)
      | (go_at_call 121; refine (srcNum_two _ _ _).mono ?_; rintro e w2 ⟨rfl, rfl⟩; rw [hc]))
    go_ret2
    exact ⟨rfl, q1, q2, q3⟩
  refine hr.mono ?_
  rintro e w1 ⟨rfl, q1, q2, q3⟩
  go_wp2_with fail
  go_ret2
  exact ⟨rfl, q1, q2, q3⟩
theorem srcBe16_ways (h : SrcAt w p g s f t a) (o : SrcOk s f t a) (k : LedAt w g x) (ok : x.Ok) (hx : x.reason = 0) :
    Calls Tryz.prog 114 #[.pointer (some ⟨p, 0, none⟩)] w fun e w' => ReadPost w w' p g s f t a 2 x e (.int .i64 0) (.int .i64 (beN s a 2 : Int)) := by
  rcases led_work_ways 1 ok hx with ⟨y, e, yok, yr, yb⟩ | ⟨y, e, yok, yr, yb⟩
  · refine (srcBe16_spent h k ok e).mono ?_
    rintro e' w' ⟨rfl, q1, q2, q3⟩
    exact ⟨y, q2, yok, yb, q3, .inl ⟨4, a, rfl, q1, .inl ⟨yr, rfl, rfl⟩, noRun_spent e⟩⟩
  · by_cases ha : a + 2 ≤ t
    · refine (srcBe16_yes h o k ok e ha).mono ?_
      rintro e' w' ⟨rfl, q1, q2, q3⟩
      exact ⟨y, q2, yok, yb, q3, .inr ⟨rfl, q1, yr, ha, e⟩⟩
    · refine (srcBe16_short h o k ok e ha).mono ?_
      rintro e' w' ⟨rfl, q1, q2, q3⟩
      exact ⟨y, q2, yok, yb, q3, .inl ⟨1, t, rfl, q1, .inr ⟨yr, rfl, rfl⟩, noRun_short e ha⟩⟩
end
end Go.Proofs.YthljhebbblhakaaGreatDoor
