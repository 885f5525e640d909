/- Writing PNM: the document's May. -/
import Derived.Test.YthljhebbblhakaaGreatDoorEPnmWb
namespace Go.Proofs.YthljhebbblhakaaGreatDoor
open Go.RowKit
set_option linter.unusedVariables false
set_option linter.unusedSimpArgs false

/-- can an image be written, of a kind -/
def mayAll (K : Nat) (l : List UInt8) (N : Nat) : Bool := (List.range N).all fun i => mayB K (pcAt l i)
theorem mayAll_yes {K N : Nat} {l : List UInt8} (h : ∀ i, i < N → mayB K (pcAt l i) = true) : mayAll K l N = true := by
  unfold mayAll
  rw [List.all_eq_true]
  intro i hi
  exact h i (List.mem_range.1 hi)
theorem mayAll_no {K N i : Nat} {l : List UInt8} (hi : i < N) (h : mayB K (pcAt l i) = false) : mayAll K l N = false := by
  unfold mayAll
  rw [List.all_eq_false]
  exact ⟨i, List.mem_range.2 hi, by rw [h]; decide⟩
theorem mayAll_all {K N : Nat} {l : List UInt8} (h : mayAll K l N = true) : ∀ i, i < N → mayB K (pcAt l i) = true := by
  unfold mayAll at h
  rw [List.all_eq_true] at h
  exact fun i hi => h i (List.mem_range.2 hi)
theorem mayB_shift (k : Nat) (hk : 1 ≤ k ∧ k ≤ 3) (q : Qc) : mayB (k + 3) q = mayB k q := by
  have : k = 1 ∨ k = 2 ∨ k = 3 := by omega
  rcases this with rfl | rfl | rfl <;> rfl
/-- an image in a box, and its bytes -/
structure WiI (w0 w : World) (W H n c : Nat) (a : Option Addr) (l : List UInt8) : Prop where
  I : IB w w0.heap.size (W : Int) (H : Int) a n c
  D : BytesAt w a n l
  B : Below w0.heap.size w0 w
section
variable {w0 w w' : World} {W H n c : Nat} {a : Option Addr} {l : List UInt8}
theorem WiI.below (h : WiI w0 w W H n c a l) (b : Below w.heap.size w w') : WiI w0 w' W H n c a l := ⟨Blk.below h.I b (Blk.lt h.I), h.D.below b, below_next h.B b⟩
theorem WiI.alloc (h : WiI w0 w W H n c a l) (x : Obj) : WiI w0 (w.alloc x) W H n c a l := h.below ((Below.refl _ _).alloc (Nat.le_refl _) _)
theorem WiI.drew (h : WiI w0 w W H n c a l) : WiI w0 w.drew W H n c a l := h.below (Below.refl _ _).drew
theorem WiI.new (h : BytesAt w a n l) : WiI w (w.alloc (.cells #[.int .i64 (W : Int), .int .i64 (H : Int), .slice a n c] 24)) W H n c a l := ⟨Blk.new _ _ _, h.alloc _, (Below.refl _ _).alloc (Nat.le_refl _) _⟩
end
set_option maxRecDepth 100000 in
set_option maxHeartbeats 8000000 in
theorem refMay_1 {W H n c : Nat} {a : Option Addr} {l : List UInt8} {w : World} (hr : RightP (W : Int) (H : Int) n) (hl : n = l.length) (hnc : n ≤ c) (hb : BytesAt w a n l) : Calls Tryz.prog 9 #[.agg #[.int .i64 (W : Int), .int .i64 (H : Int), .slice a n c], .int .i64 1] w fun e w' => e = .returned (.bool (mayAll 1 l (W * H))) ∧ Below w.heap.size w w' := by
  have hW := hr.1
  have hH := hr.2.1
  have HP := Lib.hid (fun (X Y : Nat) (hX : X < W) (hY : Y < H) => (px_both (a := a) hr hl hnc hX hY).2)
  have I0 : WiI w (w.alloc (.cells #[.int .i64 (W : Int), .int .i64 (H : Int), .slice a n c] 24)) W H n c a l := WiI.new hb
  have HI0 := Lib.hid I0
  clear hr hl hnc hb
  go_enter Tryz.func9, Tryz.ntmps9
  go_upto_region 2 with fail
  generalize w.alloc (.cells #[.int .i64 (W : Int), .int .i64 (H : Int), .slice a n c] 24) = w1 at HI0 I0 ⊢
  clear I0
  go_loopg [5, 6, 7, 8] H (fun gh v5 v6 v7 v8 wr => ∃ y : Nat, y + gh = H ∧ v5 = .int .i64 (y : Int) ∧ Hid (∀ i, i < y * W → mayB 1 (pcAt l i) = true) ∧ Hid (WiI w wr W H n c a l))
  case atStart => exact ⟨0, by omega, rfl, Lib.hid (fun i hi => by omega), HI0⟩
  case round =>
    obtain ⟨y, hy, rfl, HA, HI⟩ := hrel
    clear HI0
    obtain ⟨i0, i1, i2, z0, z1, z2, il⟩ := IB.all HI.out.I
    by_cases hyH : y < H
    · have hyI : (y : Int) < (H : Int) := by omega
      obtain ⟨m, rfl⟩ : ∃ m, gk = m + 1 := ⟨gk - 1, by omega⟩
      obtain ⟨yW, hyW⟩ : ∃ yW, y * W = yW := ⟨_, rfl⟩
      have HYW := Lib.hid hyW
      rw [hyW] at HA
      have hyb : yW + W ≤ W * H := by
        rw [← hyW, show y * W + W = (y + 1) * W by rw [Nat.add_mul, Nat.one_mul], Nat.mul_comm W H]
        exact Nat.mul_le_mul (by omega) (Nat.le_refl _)
      have HYB := Lib.hid hyb
      clear hyW hyb
      go_upto_region 5 with fail
      clear i0 i1 i2 z0 z1 z2 il
      go_loopg [6, 7, 8] W (fun gx v6 v7 v8 wx => ∃ x : Nat, x + gx = W ∧ v6 = .int .i64 (x : Int) ∧ Hid (∀ i, i < yW + x → mayB 1 (pcAt l i) = true) ∧ Hid (WiI w wx W H n c a l))
      case atStart => exact ⟨0, by omega, rfl, Lib.hid (fun i hi => HA.out i (by omega)), HI⟩
      case round =>
        clear HI HA
        obtain ⟨x, hx, rfl, HA, HI⟩ := hrel
        obtain ⟨i0, i1, i2, z0, z1, z2, il⟩ := IB.all HI.out.I
        by_cases hxW : x < W
        · have hxI : (x : Int) < (W : Int) := by omega
          obtain ⟨g', rfl⟩ : ∃ g', gk = g' + 1 := ⟨gk - 1, by omega⟩
          have HPX := Lib.hid (HP.out x y hxW hyH _ HI.out.D)
          rw [HYW.out] at HPX
          obtain ⟨q, hq⟩ : ∃ q, pcAt l (yW + x) = q := ⟨_, rfl⟩
          rw [hq] at HPX
          unfold Qc.v at HPX
          have HQ := Lib.hid hq
          obtain ⟨b1, h1⟩ : ∃ b, ((q.a.toNat : Int) == 255) = b := ⟨_, rfl⟩
          obtain ⟨b2, h2⟩ : ∃ b, ((q.r.toNat : Int) == (q.g.toNat : Int)) = b := ⟨_, rfl⟩
          obtain ⟨b3, h3⟩ : ∃ b, ((q.g.toNat : Int) == (q.b.toNat : Int)) = b := ⟨_, rfl⟩
          obtain ⟨b4, h4⟩ : ∃ b, ((q.r.toNat : Int) == 0) = b := ⟨_, rfl⟩
          obtain ⟨b5, h5⟩ : ∃ b, ((q.r.toNat : Int) == 255) = b := ⟨_, rfl⟩
          have k1 : ((q.a.toNat : Int) != 255) = !b1 := by rw [bne, h1]
          have k4 : ((q.r.toNat : Int) != 0) = !b4 := by rw [bne, h4]
          have k5 : ((q.r.toNat : Int) != 255) = !b5 := by rw [bne, h5]
          have HMB : Hid (mayB 1 q = (b1 && ((1 == 3 || 1 == 6) || (b2 && b3)) && (!(1 == 1 || 1 == 4) || (b4 || b5)))) := Lib.hid (by unfold mayB; rw [h1, h2, h3, h4, h5])
          clear hq
          go_upto_region 8 with (go_at_call 30; refine HPX.out.mono ?_; rintro e w7 ⟨rfl, b7⟩)
          have I8 := (HI.out.below b7).alloc (.cells #[.int .u8 (q.r.toNat : Int), .int .u8 (q.g.toNat : Int), .int .u8 (q.b.toNat : Int), .int .u8 (q.a.toNat : Int)] 48)
          have C8 : CB (w7.alloc (.cells #[.int .u8 (q.r.toNat : Int), .int .u8 (q.g.toNat : Int), .int .u8 (q.b.toNat : Int), .int .u8 (q.a.toNat : Int)] 48)) w7.heap.size (q.r.toNat : Int) (q.g.toNat : Int) (q.b.toNat : Int) (q.a.toNat : Int) := Blk.new _ _ _
          clear i0 i1 i2 z0 z1 z2 il b7 HPX HI
          generalize w7.alloc (.cells #[.int .u8 (q.r.toNat : Int), .int .u8 (q.g.toNat : Int), .int .u8 (q.b.toNat : Int), .int .u8 (q.a.toNat : Int)] 48) = w8 at I8 C8 ⊢
          generalize w7.heap.size = qc at C8 ⊢
          have c0 := C8.c0
          have c1 := C8.c1
          have c2 := C8.c2
          have c3 := C8.c3
          have HI8 := Lib.hid I8
          clear C8 I8
          cases b1 <;> cases b2 <;> cases b3 <;> cases b4 <;> cases b5
          all_goals
            simp only [Bool.not_true, Bool.not_false] at k1 k4 k5
            go_wp2_with fail
            first
              | (go_ret; exact ⟨by rw [mayAll_no (i := yW + x) (by have := HYB.out; omega) (by rw [HQ.out, HMB.out]; rfl)]; rfl, HI8.out.B⟩)
              | (go_roundg g'
                 case measure => omega
                 case rel => exact ⟨x + 1, by omega, by go_num, Lib.hid (fun i hi => by
                   by_cases h : i = yW + x
                   · subst h
                     rw [HQ.out, HMB.out]
                     rfl
                   · exact HA.out i (by omega)), HI8⟩)
        · obtain rfl : x = W := by omega
          obtain rfl : gk = 0 := by omega
          have hxI : ¬ (x : Int) < (x : Int) := by omega
          have HA2 : Hid (∀ i, i < (y + 1) * x → mayB 1 (pcAt l i) = true) := Lib.hid (fun i hi => HA.out i (by have := HYW.out; rw [Nat.add_mul, Nat.one_mul] at hi; omega))
          go_wp2_with fail
          go_roundg m
          case measure => omega
          case rel => exact ⟨y + 1, by omega, by go_num, HA2, HI⟩
    · obtain rfl : y = H := by omega
      obtain rfl : gk = 0 := by omega
      have hyI : ¬ (y : Int) < (y : Int) := by omega
      go_wp2_with fail
      go_ret
      exact ⟨by rw [mayAll_yes (fun i hi => HA.out i (by rw [Nat.mul_comm]; exact hi))]; rfl, HI.out.B⟩
set_option maxRecDepth 100000 in
set_option maxHeartbeats 8000000 in
theorem refMay_2 {W H n c : Nat} {a : Option Addr} {l : List UInt8} {w : World} (hr : RightP (W : Int) (H : Int) n) (hl : n = l.length) (hnc : n ≤ c) (hb : BytesAt w a n l) : Calls Tryz.prog 9 #[.agg #[.int .i64 (W : Int), .int .i64 (H : Int), .slice a n c], .int .i64 2] w fun e w' => e = .returned (.bool (mayAll 2 l (W * H))) ∧ Below w.heap.size w w' := by
  have hW := hr.1
  have hH := hr.2.1
  have HP := Lib.hid (fun (X Y : Nat) (hX : X < W) (hY : Y < H) => (px_both (a := a) hr hl hnc hX hY).2)
  have I0 : WiI w (w.alloc (.cells #[.int .i64 (W : Int), .int .i64 (H : Int), .slice a n c] 24)) W H n c a l := WiI.new hb
  have HI0 := Lib.hid I0
  clear hr hl hnc hb
  go_enter Tryz.func9, Tryz.ntmps9
  go_upto_region 2 with fail
  generalize w.alloc (.cells #[.int .i64 (W : Int), .int .i64 (H : Int), .slice a n c] 24) = w1 at HI0 I0 ⊢
  clear I0
  go_loopg [5, 6, 7, 8] H (fun gh v5 v6 v7 v8 wr => ∃ y : Nat, y + gh = H ∧ v5 = .int .i64 (y : Int) ∧ Hid (∀ i, i < y * W → mayB 2 (pcAt l i) = true) ∧ Hid (WiI w wr W H n c a l))
  case atStart => exact ⟨0, by omega, rfl, Lib.hid (fun i hi => by omega), HI0⟩
  case round =>
    obtain ⟨y, hy, rfl, HA, HI⟩ := hrel
    clear HI0
    obtain ⟨i0, i1, i2, z0, z1, z2, il⟩ := IB.all HI.out.I
    by_cases hyH : y < H
    · have hyI : (y : Int) < (H : Int) := by omega
      obtain ⟨m, rfl⟩ : ∃ m, gk = m + 1 := ⟨gk - 1, by omega⟩
      obtain ⟨yW, hyW⟩ : ∃ yW, y * W = yW := ⟨_, rfl⟩
      have HYW := Lib.hid hyW
      rw [hyW] at HA
      have hyb : yW + W ≤ W * H := by
        rw [← hyW, show y * W + W = (y + 1) * W by rw [Nat.add_mul, Nat.one_mul], Nat.mul_comm W H]
        exact Nat.mul_le_mul (by omega) (Nat.le_refl _)
      have HYB := Lib.hid hyb
      clear hyW hyb
      go_upto_region 5 with fail
      clear i0 i1 i2 z0 z1 z2 il
      go_loopg [6, 7, 8] W (fun gx v6 v7 v8 wx => ∃ x : Nat, x + gx = W ∧ v6 = .int .i64 (x : Int) ∧ Hid (∀ i, i < yW + x → mayB 2 (pcAt l i) = true) ∧ Hid (WiI w wx W H n c a l))
      case atStart => exact ⟨0, by omega, rfl, Lib.hid (fun i hi => HA.out i (by omega)), HI⟩
      case round =>
        clear HI HA
        obtain ⟨x, hx, rfl, HA, HI⟩ := hrel
        obtain ⟨i0, i1, i2, z0, z1, z2, il⟩ := IB.all HI.out.I
        by_cases hxW : x < W
        · have hxI : (x : Int) < (W : Int) := by omega
          obtain ⟨g', rfl⟩ : ∃ g', gk = g' + 1 := ⟨gk - 1, by omega⟩
          have HPX := Lib.hid (HP.out x y hxW hyH _ HI.out.D)
          rw [HYW.out] at HPX
          obtain ⟨q, hq⟩ : ∃ q, pcAt l (yW + x) = q := ⟨_, rfl⟩
          rw [hq] at HPX
          unfold Qc.v at HPX
          have HQ := Lib.hid hq
          obtain ⟨b1, h1⟩ : ∃ b, ((q.a.toNat : Int) == 255) = b := ⟨_, rfl⟩
          obtain ⟨b2, h2⟩ : ∃ b, ((q.r.toNat : Int) == (q.g.toNat : Int)) = b := ⟨_, rfl⟩
          obtain ⟨b3, h3⟩ : ∃ b, ((q.g.toNat : Int) == (q.b.toNat : Int)) = b := ⟨_, rfl⟩
          obtain ⟨b4, h4⟩ : ∃ b, ((q.r.toNat : Int) == 0) = b := ⟨_, rfl⟩
          obtain ⟨b5, h5⟩ : ∃ b, ((q.r.toNat : Int) == 255) = b := ⟨_, rfl⟩
          have k1 : ((q.a.toNat : Int) != 255) = !b1 := by rw [bne, h1]
          have k4 : ((q.r.toNat : Int) != 0) = !b4 := by rw [bne, h4]
          have k5 : ((q.r.toNat : Int) != 255) = !b5 := by rw [bne, h5]
          have HMB : Hid (mayB 2 q = (b1 && ((2 == 3 || 2 == 6) || (b2 && b3)) && (!(2 == 1 || 2 == 4) || (b4 || b5)))) := Lib.hid (by unfold mayB; rw [h1, h2, h3, h4, h5])
          clear hq
          go_upto_region 8 with (go_at_call 30; refine HPX.out.mono ?_; rintro e w7 ⟨rfl, b7⟩)
          have I8 := (HI.out.below b7).alloc (.cells #[.int .u8 (q.r.toNat : Int), .int .u8 (q.g.toNat : Int), .int .u8 (q.b.toNat : Int), .int .u8 (q.a.toNat : Int)] 48)
          have C8 : CB (w7.alloc (.cells #[.int .u8 (q.r.toNat : Int), .int .u8 (q.g.toNat : Int), .int .u8 (q.b.toNat : Int), .int .u8 (q.a.toNat : Int)] 48)) w7.heap.size (q.r.toNat : Int) (q.g.toNat : Int) (q.b.toNat : Int) (q.a.toNat : Int) := Blk.new _ _ _
          clear i0 i1 i2 z0 z1 z2 il b7 HPX HI
          generalize w7.alloc (.cells #[.int .u8 (q.r.toNat : Int), .int .u8 (q.g.toNat : Int), .int .u8 (q.b.toNat : Int), .int .u8 (q.a.toNat : Int)] 48) = w8 at I8 C8 ⊢
          generalize w7.heap.size = qc at C8 ⊢
          have c0 := C8.c0
          have c1 := C8.c1
          have c2 := C8.c2
          have c3 := C8.c3
          have HI8 := Lib.hid I8
          clear C8 I8
          cases b1 <;> cases b2 <;> cases b3
          all_goals
            simp only [Bool.not_true, Bool.not_false] at k1 k4 k5
            go_wp2_with fail
            first
              | (go_ret; exact ⟨by rw [mayAll_no (i := yW + x) (by have := HYB.out; omega) (by rw [HQ.out, HMB.out]; rfl)]; rfl, HI8.out.B⟩)
              | (go_roundg g'
                 case measure => omega
                 case rel => exact ⟨x + 1, by omega, by go_num, Lib.hid (fun i hi => by
                   by_cases h : i = yW + x
                   · subst h
                     rw [HQ.out, HMB.out]
                     rfl
                   · exact HA.out i (by omega)), HI8⟩)
        · obtain rfl : x = W := by omega
          obtain rfl : gk = 0 := by omega
          have hxI : ¬ (x : Int) < (x : Int) := by omega
          have HA2 : Hid (∀ i, i < (y + 1) * x → mayB 2 (pcAt l i) = true) := Lib.hid (fun i hi => HA.out i (by have := HYW.out; rw [Nat.add_mul, Nat.one_mul] at hi; omega))
          go_wp2_with fail
          go_roundg m
          case measure => omega
          case rel => exact ⟨y + 1, by omega, by go_num, HA2, HI⟩
    · obtain rfl : y = H := by omega
      obtain rfl : gk = 0 := by omega
      have hyI : ¬ (y : Int) < (y : Int) := by omega
      go_wp2_with fail
      go_ret
      exact ⟨by rw [mayAll_yes (fun i hi => HA.out i (by rw [Nat.mul_comm]; exact hi))]; rfl, HI.out.B⟩
set_option maxRecDepth 100000 in
set_option maxHeartbeats 8000000 in
theorem refMay_3 {W H n c : Nat} {a : Option Addr} {l : List UInt8} {w : World} (hr : RightP (W : Int) (H : Int) n) (hl : n = l.length) (hnc : n ≤ c) (hb : BytesAt w a n l) : Calls Tryz.prog 9 #[.agg #[.int .i64 (W : Int), .int .i64 (H : Int), .slice a n c], .int .i64 3] w fun e w' => e = .returned (.bool (mayAll 3 l (W * H))) ∧ Below w.heap.size w w' := by
  have hW := hr.1
  have hH := hr.2.1
  have HP := Lib.hid (fun (X Y : Nat) (hX : X < W) (hY : Y < H) => (px_both (a := a) hr hl hnc hX hY).2)
  have I0 : WiI w (w.alloc (.cells #[.int .i64 (W : Int), .int .i64 (H : Int), .slice a n c] 24)) W H n c a l := WiI.new hb
  have HI0 := Lib.hid I0
  clear hr hl hnc hb
  go_enter Tryz.func9, Tryz.ntmps9
  go_upto_region 2 with fail
  generalize w.alloc (.cells #[.int .i64 (W : Int), .int .i64 (H : Int), .slice a n c] 24) = w1 at HI0 I0 ⊢
  clear I0
  go_loopg [5, 6, 7, 8] H (fun gh v5 v6 v7 v8 wr => ∃ y : Nat, y + gh = H ∧ v5 = .int .i64 (y : Int) ∧ Hid (∀ i, i < y * W → mayB 3 (pcAt l i) = true) ∧ Hid (WiI w wr W H n c a l))
  case atStart => exact ⟨0, by omega, rfl, Lib.hid (fun i hi => by omega), HI0⟩
  case round =>
    obtain ⟨y, hy, rfl, HA, HI⟩ := hrel
    clear HI0
    obtain ⟨i0, i1, i2, z0, z1, z2, il⟩ := IB.all HI.out.I
    by_cases hyH : y < H
    · have hyI : (y : Int) < (H : Int) := by omega
      obtain ⟨m, rfl⟩ : ∃ m, gk = m + 1 := ⟨gk - 1, by omega⟩
      obtain ⟨yW, hyW⟩ : ∃ yW, y * W = yW := ⟨_, rfl⟩
      have HYW := Lib.hid hyW
      rw [hyW] at HA
      have hyb : yW + W ≤ W * H := by
        rw [← hyW, show y * W + W = (y + 1) * W by rw [Nat.add_mul, Nat.one_mul], Nat.mul_comm W H]
        exact Nat.mul_le_mul (by omega) (Nat.le_refl _)
      have HYB := Lib.hid hyb
      clear hyW hyb
      go_upto_region 5 with fail
      clear i0 i1 i2 z0 z1 z2 il
      go_loopg [6, 7, 8] W (fun gx v6 v7 v8 wx => ∃ x : Nat, x + gx = W ∧ v6 = .int .i64 (x : Int) ∧ Hid (∀ i, i < yW + x → mayB 3 (pcAt l i) = true) ∧ Hid (WiI w wx W H n c a l))
      case atStart => exact ⟨0, by omega, rfl, Lib.hid (fun i hi => HA.out i (by omega)), HI⟩
      case round =>
        clear HI HA
        obtain ⟨x, hx, rfl, HA, HI⟩ := hrel
        obtain ⟨i0, i1, i2, z0, z1, z2, il⟩ := IB.all HI.out.I
        by_cases hxW : x < W
        · have hxI : (x : Int) < (W : Int) := by omega
          obtain ⟨g', rfl⟩ : ∃ g', gk = g' + 1 := ⟨gk - 1, by omega⟩
          have HPX := Lib.hid (HP.out x y hxW hyH _ HI.out.D)
          rw [HYW.out] at HPX
          obtain ⟨q, hq⟩ : ∃ q, pcAt l (yW + x) = q := ⟨_, rfl⟩
          rw [hq] at HPX
          unfold Qc.v at HPX
          have HQ := Lib.hid hq
          obtain ⟨b1, h1⟩ : ∃ b, ((q.a.toNat : Int) == 255) = b := ⟨_, rfl⟩
          obtain ⟨b2, h2⟩ : ∃ b, ((q.r.toNat : Int) == (q.g.toNat : Int)) = b := ⟨_, rfl⟩
          obtain ⟨b3, h3⟩ : ∃ b, ((q.g.toNat : Int) == (q.b.toNat : Int)) = b := ⟨_, rfl⟩
          obtain ⟨b4, h4⟩ : ∃ b, ((q.r.toNat : Int) == 0) = b := ⟨_, rfl⟩
          obtain ⟨b5, h5⟩ : ∃ b, ((q.r.toNat : Int) == 255) = b := ⟨_, rfl⟩
          have k1 : ((q.a.toNat : Int) != 255) = !b1 := by rw [bne, h1]
          have k4 : ((q.r.toNat : Int) != 0) = !b4 := by rw [bne, h4]
          have k5 : ((q.r.toNat : Int) != 255) = !b5 := by rw [bne, h5]
          have HMB : Hid (mayB 3 q = (b1 && ((3 == 3 || 3 == 6) || (b2 && b3)) && (!(3 == 1 || 3 == 4) || (b4 || b5)))) := Lib.hid (by unfold mayB; rw [h1, h2, h3, h4, h5])
          clear hq
          go_upto_region 8 with (go_at_call 30; refine HPX.out.mono ?_; rintro e w7 ⟨rfl, b7⟩)
          have I8 := (HI.out.below b7).alloc (.cells #[.int .u8 (q.r.toNat : Int), .int .u8 (q.g.toNat : Int), .int .u8 (q.b.toNat : Int), .int .u8 (q.a.toNat : Int)] 48)
          have C8 : CB (w7.alloc (.cells #[.int .u8 (q.r.toNat : Int), .int .u8 (q.g.toNat : Int), .int .u8 (q.b.toNat : Int), .int .u8 (q.a.toNat : Int)] 48)) w7.heap.size (q.r.toNat : Int) (q.g.toNat : Int) (q.b.toNat : Int) (q.a.toNat : Int) := Blk.new _ _ _
          clear i0 i1 i2 z0 z1 z2 il b7 HPX HI
          generalize w7.alloc (.cells #[.int .u8 (q.r.toNat : Int), .int .u8 (q.g.toNat : Int), .int .u8 (q.b.toNat : Int), .int .u8 (q.a.toNat : Int)] 48) = w8 at I8 C8 ⊢
          generalize w7.heap.size = qc at C8 ⊢
          have c0 := C8.c0
          have c1 := C8.c1
          have c2 := C8.c2
          have c3 := C8.c3
          have HI8 := Lib.hid I8
          clear C8 I8
          cases b1 <;> cases b2 <;> cases b3
          all_goals
            simp only [Bool.not_true, Bool.not_false] at k1 k4 k5
            go_wp2_with fail
            first
              | (go_ret; exact ⟨by rw [mayAll_no (i := yW + x) (by have := HYB.out; omega) (by rw [HQ.out, HMB.out]; rfl)]; rfl, HI8.out.B⟩)
              | (go_roundg g'
                 case measure => omega
                 case rel => exact ⟨x + 1, by omega, by go_num, Lib.hid (fun i hi => by
                   by_cases h : i = yW + x
                   · subst h
                     rw [HQ.out, HMB.out]
                     rfl
                   · exact HA.out i (by omega)), HI8⟩)
        · obtain rfl : x = W := by omega
          obtain rfl : gk = 0 := by omega
          have hxI : ¬ (x : Int) < (x : Int) := by omega
          have HA2 : Hid (∀ i, i < (y + 1) * x → mayB 3 (pcAt l i) = true) := Lib.hid (fun i hi => HA.out i (by have := HYW.out; rw [Nat.add_mul, Nat.one_mul] at hi; omega))
          go_wp2_with fail
          go_roundg m
          case measure => omega
          case rel => exact ⟨y + 1, by omega, by go_num, HA2, HI⟩
    · obtain rfl : y = H := by omega
      obtain rfl : gk = 0 := by omega
      have hyI : ¬ (y : Int) < (y : Int) := by omega
      go_wp2_with fail
      go_ret
      exact ⟨by rw [mayAll_yes (fun i hi => HA.out i (by rw [Nat.mul_comm]; exact hi))]; rfl, HI.out.B⟩
theorem refMayC {k W H n c : Nat} {a : Option Addr} {l : List UInt8} {w : World} (hk : 1 ≤ k ∧ k ≤ 3) (hr : RightP (W : Int) (H : Int) n) (hl : n = l.length) (hnc : n ≤ c) (hb : BytesAt w a n l) : Calls Tryz.prog 9 #[.agg #[.int .i64 (W : Int), .int .i64 (H : Int), .slice a n c], .int .i64 (k : Int)] w fun e w' => e = .returned (.bool (mayAll k l (W * H))) ∧ Below w.heap.size w w' := by
  have : k = 1 ∨ k = 2 ∨ k = 3 := by omega
  rcases this with rfl | rfl | rfl
  · exact refMay_1 hr hl hnc hb
  · exact refMay_2 hr hl hnc hb
  · exact refMay_3 hr hl hnc hb
end Go.Proofs.YthljhebbblhakaaGreatDoor
