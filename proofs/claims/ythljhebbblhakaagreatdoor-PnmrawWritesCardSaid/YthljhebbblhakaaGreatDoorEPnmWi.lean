/- Writing PNM: the document's Write. -/
import Derived.Test.YthljhebbblhakaaGreatDoorEPnmWh
namespace Go.Proofs.YthljhebbblhakaaGreatDoor
open Go.RowKit
set_option linter.unusedVariables false
set_option linter.unusedSimpArgs false

set_option maxRecDepth 100000 in
set_option maxHeartbeats 8000000 in
theorem refWrite_4 {K : Nat} (hK : K = 4) {W H n c : Nat} {a : Option Addr} {l : List UInt8} {w : World} (hr : RightP (W : Int) (H : Int) n) (hl : n = l.length) (hnc : n ≤ c) (hb : BytesAt w a n l) (hWb : W ≤ 4000) (hHb : H ≤ 4000) (hm : mayAll K l (W * H) = true) : Calls Tryz.prog 15 #[.agg #[.int .i64 (W : Int), .int .i64 (H : Int), .slice a n c], .int .i64 (K : Int)] w fun e w' => Below w.heap.size w w' ∧ e = .returned (.string (strOf (encL K W H l))) := by
  have hW := hr.1
  have hH := hr.2.1
  have hK4b : ¬ (4 : Int) < (K : Int) := by omega
  have hKa : ((K : Int) == 5) = false := by subst hK; rfl
  have hKb : ((K : Int) == 6) = false := by subst hK; rfl
  have hKc : ((K : Int) == 4) = true := by subst hK; rfl
  have hKt : K ≤ 6 := by omega
  have HK3 : Hid (K = 4 ∨ K = 5 ∨ K = 6) := Lib.hid (by omega)
  have HK14 : Hid (K = 4) := Lib.hid hK
  have HM := Lib.hid (hK ▸ hm : mayAll 4 l (W * H) = true)
  have HP := Lib.hid (fun (X Y : Nat) (hX : X < W) (hY : Y < H) => (px_both (a := a) hr hl hnc hX hY).2)
  have HBY := Lib.hid hb
  have HIT1 := Lib.hid (refDigitsC K (by omega))
  have HIT2 := Lib.hid (refDigitsC W (by omega))
  have HIT3 := Lib.hid (refDigitsC H (by omega))
  have W1 : WiI w (w.alloc (.cells #[.int .i64 (W : Int), .int .i64 (H : Int), .slice a n c] 24)) W H n c a l := WiI.new hb
  have z1 := dec_size K
  have z2 := dec_size W
  have z3 := dec_size H
  have z4 : (⟨#[80]⟩ : ByteArray).size = 1 := rfl
  have z5 : (⟨#[10]⟩ : ByteArray).size = 1 := rfl
  have z6 : (⟨#[32]⟩ : ByteArray).size = 1 := rfl
  obtain ⟨c1, hc1⟩ : ∃ c1, (⟨#[80]⟩ : ByteArray) ++ dec K = c1 := ⟨_, rfl⟩
  have s1 : c1.size = 1 + (dec K).size := by rw [← hc1, ByteArray.size_append, z4]
  have A1 : ∀ w : World, (Op.stringOp .add ⟨#[80]⟩ (dec K)).run Tryz.prog w = .ok (.string c1) w := fun w => by rw [← hc1]; exact run_string_add_sum w _ _ (by omega)
  obtain ⟨c2, hc2⟩ : ∃ c2, c1 ++ ⟨#[10]⟩ = c2 := ⟨_, rfl⟩
  have s2 : c2.size = c1.size + 1 := by rw [← hc2, ByteArray.size_append, z5]
  have A2 : ∀ w : World, (Op.stringOp .add c1 ⟨#[10]⟩).run Tryz.prog w = .ok (.string c2) w := fun w => by rw [← hc2]; exact run_string_add_sum w _ _ (by omega)
  obtain ⟨c3, hc3⟩ : ∃ c3, c2 ++ dec W = c3 := ⟨_, rfl⟩
  have s3 : c3.size = c2.size + (dec W).size := by rw [← hc3, ByteArray.size_append]
  have A3 : ∀ w : World, (Op.stringOp .add c2 (dec W)).run Tryz.prog w = .ok (.string c3) w := fun w => by rw [← hc3]; exact run_string_add_sum w _ _ (by omega)
  obtain ⟨c4, hc4⟩ : ∃ c4, c3 ++ ⟨#[32]⟩ = c4 := ⟨_, rfl⟩
  have s4 : c4.size = c3.size + 1 := by rw [← hc4, ByteArray.size_append, z6]
  have A4 : ∀ w : World, (Op.stringOp .add c3 ⟨#[32]⟩).run Tryz.prog w = .ok (.string c4) w := fun w => by rw [← hc4]; exact run_string_add_sum w _ _ (by omega)
  obtain ⟨c5, hc5⟩ : ∃ c5, c4 ++ dec H = c5 := ⟨_, rfl⟩
  have s5 : c5.size = c4.size + (dec H).size := by rw [← hc5, ByteArray.size_append]
  have A5 : ∀ w : World, (Op.stringOp .add c4 (dec H)).run Tryz.prog w = .ok (.string c5) w := fun w => by rw [← hc5]; exact run_string_add_sum w _ _ (by omega)
  obtain ⟨c6, hc6⟩ : ∃ c6, c5 ++ ⟨#[10]⟩ = c6 := ⟨_, rfl⟩
  have s6 : c6.size = c5.size + 1 := by rw [← hc6, ByteArray.size_append, z5]
  have A6 : ∀ w : World, (Op.stringOp .add c5 ⟨#[10]⟩).run Tryz.prog w = .ok (.string c6) w := fun w => by rw [← hc6]; exact run_string_add_sum w _ _ (by omega)
  have hc6s : c6.size ≤ 1000000 := by omega
  have hc6l : c6.data.toList = hdrA K W H := by rw [← hc6, ← hc5, ← hc4, ← hc3, ← hc2, ← hc1]; exact hdr_text (by omega)
  have HC6 := Lib.hid hc6l
  generalize dec K = dK at A1 s1 HIT1
  generalize dec W = dW at A3 s3 HIT2
  generalize dec H = dH at A5 s5 HIT3
  have hc6l := HC6.out
  clear hr hl hnc hb hc1 hc2 hc3 hc4 hc5 hc6 s1 s2 s3 s4 s5 s6 z1 z2 z3 z4 z5 z6 hc6l hK hm
  go_enter Tryz.func15, Tryz.ntmps15
  have HI1 := Lib.hid W1
  obtain ⟨i0, i1, i2, z0, z1, z2, il⟩ := IB.all W1.I
  clear i2 z0 z1 z2 il W1
  go_upto_region 1 with fail
  refine wp_region_held_drew (S := fun wx => wx.cell? ⟨w.heap.size, 0, none⟩ = some (.int .i64 (W : Int)) ∧ wx.cell? ⟨w.heap.size, 1, none⟩ = some (.int .i64 (H : Int))) (by kernel_rfl) ⟨i0, i1⟩ (fun hHeld => ?_)
  refine wpAnyH_take (i := 0) (v := ?_) rfl (by kernel_rfl) (by kernel_rfl) (by kernel_rfl) (fun _ _ _ h => h) (Or.inl ⟨by kernel_rfl, ?_⟩) (by assumption) ?_
  rotate_left
  · intro w hSw; obtain ⟨s0, s1⟩ := hSw; go_simp; (try with_reducible rfl)
  (try simp only [Act.put, List.getElem_toArray, List.getElem_cons_succ, List.getElem_cons_zero, List.setIfInBounds_toArray, List.set_cons_zero, List.set_cons_succ])
  refine wpAnyH_take (i := 4) (v := ?_) rfl (by kernel_rfl) (by kernel_rfl) (by kernel_rfl) (fun _ _ _ h => h) (Or.inl ⟨by kernel_rfl, ?_⟩) (by assumption) ?_
  rotate_left
  · intro w hSw; obtain ⟨s0, s1⟩ := hSw; go_simp; (try with_reducible rfl)
  (try simp only [Act.put, List.getElem_toArray, List.getElem_cons_succ, List.getElem_cons_zero, List.setIfInBounds_toArray, List.set_cons_zero, List.set_cons_succ])
  refine wpAnyH_take (i := 5) (v := ?_) rfl (by kernel_rfl) (by kernel_rfl) (by kernel_rfl) (fun _ _ _ h => h) (Or.inl ⟨by kernel_rfl, ?_⟩) (by assumption) ?_
  rotate_left
  · intro w hSw; obtain ⟨s0, s1⟩ := hSw; go_simp; (try with_reducible rfl)
  (try simp only [Act.put, List.getElem_toArray, List.getElem_cons_succ, List.getElem_cons_zero, List.setIfInBounds_toArray, List.set_cons_zero, List.set_cons_succ])
  refine wpAnyH_take (i := 9) (v := ?_) rfl (by kernel_rfl) (by kernel_rfl) (by kernel_rfl) (fun _ _ _ h => h) (Or.inl ⟨by kernel_rfl, ?_⟩) (by assumption) ?_
  rotate_left
  · intro w hSw; obtain ⟨s0, s1⟩ := hSw; go_simp; (try with_reducible rfl)
  (try simp only [Act.put, List.getElem_toArray, List.getElem_cons_succ, List.getElem_cons_zero, List.setIfInBounds_toArray, List.set_cons_zero, List.set_cons_succ])
  refine wpAnyH_take (i := 10) (v := ?_) rfl (by kernel_rfl) (by kernel_rfl) (by kernel_rfl) (fun _ _ _ h => h) (Or.inl ⟨by kernel_rfl, ?_⟩) (by assumption) ?_
  rotate_left
  · intro w hSw; obtain ⟨s0, s1⟩ := hSw; go_simp; (try with_reducible rfl)
  (try simp only [Act.put, List.getElem_toArray, List.getElem_cons_succ, List.getElem_cons_zero, List.setIfInBounds_toArray, List.set_cons_zero, List.set_cons_succ])
  refine wpAnyH_ready (rs := [1]) (by kernel_rfl) (by simp) ?_
  refine AllReadyH.cons rfl (fun K hK => ?_) AllReadyH.nil
  go_simp
  refine (HIT1.out _).mono ?_
  rintro e w'0 ⟨rfl, b0⟩
  have J0 := (HI1.out.drew).below b0
  refine hK.out _ _ (⟨Blk.cell J0.I 0, Blk.cell J0.I 1⟩) (fun hHeld' => ?_)
  clear hK K hHeld
  have hHeld := hHeld'
  clear hHeld'
  (try simp only [Act.put, List.getElem_toArray, List.getElem_cons_succ, List.getElem_cons_zero, List.setIfInBounds_toArray, List.set_cons_zero, List.set_cons_succ])
  refine wpAnyH_take (i := 2) (v := ?_) rfl (by kernel_rfl) (by kernel_rfl) (by kernel_rfl) (fun _ _ _ h => h) (Or.inl ⟨by kernel_rfl, ?_⟩) (by assumption) ?_
  rotate_left
  · intro w hSw; obtain ⟨s0, s1⟩ := hSw; go_simp; (try with_reducible rfl)
  (try simp only [Act.put, List.getElem_toArray, List.getElem_cons_succ, List.getElem_cons_zero, List.setIfInBounds_toArray, List.set_cons_zero, List.set_cons_succ])
  refine wpAnyH_take (i := 3) (v := ?_) rfl (by kernel_rfl) (by kernel_rfl) (by kernel_rfl) (fun _ _ _ h => h) (Or.inl ⟨by kernel_rfl, ?_⟩) (by assumption) ?_
  rotate_left
  · intro w hSw; obtain ⟨s0, s1⟩ := hSw; go_simp; (try with_reducible rfl)
  (try simp only [Act.put, List.getElem_toArray, List.getElem_cons_succ, List.getElem_cons_zero, List.setIfInBounds_toArray, List.set_cons_zero, List.set_cons_succ])
  refine wpAnyH_ready (rs := [6]) (by kernel_rfl) (by simp) ?_
  refine AllReadyH.cons rfl (fun K hK => ?_) AllReadyH.nil
  go_simp
  refine (HIT2.out _).mono ?_
  rintro e w'1 ⟨rfl, b1⟩
  have J1 := (J0).below b1
  refine hK.out _ _ (⟨Blk.cell J1.I 0, Blk.cell J1.I 1⟩) (fun hHeld' => ?_)
  clear hK K hHeld
  have hHeld := hHeld'
  clear hHeld'
  (try simp only [Act.put, List.getElem_toArray, List.getElem_cons_succ, List.getElem_cons_zero, List.setIfInBounds_toArray, List.set_cons_zero, List.set_cons_succ])
  refine wpAnyH_take (i := 7) (v := ?_) rfl (by kernel_rfl) (by kernel_rfl) (by kernel_rfl) (fun _ _ _ h => h) (Or.inl ⟨by kernel_rfl, ?_⟩) (by assumption) ?_
  rotate_left
  · intro w hSw; obtain ⟨s0, s1⟩ := hSw; go_simp; (try with_reducible rfl)
  (try simp only [Act.put, List.getElem_toArray, List.getElem_cons_succ, List.getElem_cons_zero, List.setIfInBounds_toArray, List.set_cons_zero, List.set_cons_succ])
  refine wpAnyH_take (i := 8) (v := ?_) rfl (by kernel_rfl) (by kernel_rfl) (by kernel_rfl) (fun _ _ _ h => h) (Or.inl ⟨by kernel_rfl, ?_⟩) (by assumption) ?_
  rotate_left
  · intro w hSw; obtain ⟨s0, s1⟩ := hSw; go_simp; (try with_reducible rfl)
  (try simp only [Act.put, List.getElem_toArray, List.getElem_cons_succ, List.getElem_cons_zero, List.setIfInBounds_toArray, List.set_cons_zero, List.set_cons_succ])
  refine wpAnyH_ready (rs := [11]) (by kernel_rfl) (by simp) ?_
  refine AllReadyH.cons rfl (fun K hK => ?_) AllReadyH.nil
  go_simp
  refine (HIT3.out _).mono ?_
  rintro e w'2 ⟨rfl, b2⟩
  have J2 := (J1).below b2
  refine hK.out _ _ (⟨Blk.cell J2.I 0, Blk.cell J2.I 1⟩) (fun hHeld' => ?_)
  clear hK K hHeld
  have hHeld := hHeld'
  clear hHeld'
  (try simp only [Act.put, List.getElem_toArray, List.getElem_cons_succ, List.getElem_cons_zero, List.setIfInBounds_toArray, List.set_cons_zero, List.set_cons_succ])
  refine wpAnyH_take (i := 12) (v := ?_) rfl (by kernel_rfl) (by kernel_rfl) (by kernel_rfl) (fun _ _ _ h => h) (Or.inl ⟨by kernel_rfl, ?_⟩) (by assumption) ?_
  rotate_left
  · intro w hSw; obtain ⟨s0, s1⟩ := hSw; go_simp; (try with_reducible rfl)
  (try simp only [Act.put, List.getElem_toArray, List.getElem_cons_succ, List.getElem_cons_zero, List.setIfInBounds_toArray, List.set_cons_zero, List.set_cons_succ])
  refine wpAnyH_take (i := 13) (v := ?_) rfl (by kernel_rfl) (by kernel_rfl) (by kernel_rfl) (fun _ _ _ h => h) (Or.inl ⟨by kernel_rfl, ?_⟩) (by assumption) ?_
  rotate_left
  · intro w hSw; obtain ⟨s0, s1⟩ := hSw; go_simp; (try with_reducible rfl)
  (try simp only [Act.put, List.getElem_toArray, List.getElem_cons_succ, List.getElem_cons_zero, List.setIfInBounds_toArray, List.set_cons_zero, List.set_cons_succ])
  refine wpAnyH_ready (rs := [14]) (by kernel_rfl) (by simp) ?_
  refine AllReadyH.cons rfl (fun K hK => ?_) AllReadyH.nil
  refine step_bytes rfl _ rfl c6 rfl hc6s ?_
  intro v5 w5 o5 b5
  have J5 := J2.below b5
  refine hK.out _ _ (⟨Blk.cell J5.I 0, Blk.cell J5.I 1⟩) (fun hHeld' => ?_)
  clear hK K hHeld
  have hHeld := hHeld'
  clear hHeld'
  (try simp only [Act.put, List.getElem_toArray, List.getElem_cons_succ, List.getElem_cons_zero, List.setIfInBounds_toArray, List.set_cons_zero, List.set_cons_succ])
  refine wpAnyH_take (i := 15) (v := ?_) rfl (by kernel_rfl) (by kernel_rfl) (by kernel_rfl) (fun _ _ _ h => h) (Or.inl ⟨by kernel_rfl, ?_⟩) (by assumption) ?_
  rotate_left
  · intro w hSw; obtain ⟨s0, s1⟩ := hSw; go_simp; (try with_reducible rfl)
  (try simp only [Act.put, List.getElem_toArray, List.getElem_cons_succ, List.getElem_cons_zero, List.setIfInBounds_toArray, List.set_cons_zero, List.set_cons_succ])
  refine wpAnyH_done (by kernel_rfl) ?_ _
  (try simp only [List.getElem_toArray, List.getElem_cons_succ, List.getElem_cons_zero, List.set_cons_zero, List.set_cons_succ])
  clear hHeld
  obtain ⟨B0, hB0⟩ : ∃ B0, w'2.heap.size = B0 := ⟨_, rfl⟩
  rw [hB0] at o5
  clear i0 i1
  have i0 : w5.cell? ⟨w.heap.size, 0, none⟩ = some (.int .i64 (W : Int)) := Blk.cell J5.I 0
  have i1 : w5.cell? ⟨w.heap.size, 1, none⟩ = some (.int .i64 (H : Int)) := Blk.cell J5.I 1
  have hown : OwnsM w5 B0 v5 (hdrL K W H) := by rw [show hdrL K W H = hdrA K W H by rw [HK14.out, hdrA_four], ← HC6.out]; exact o5
  have hB0w : w.heap.size < B0 := by rw [← hB0]; exact Blk.lt J2.I
  have HR0 : Hid (RwI w w5 W H n c a B0 v5 (hdrL K W H ++ encRows K ((rowsOf l W H).take 0))) := Lib.hid ⟨by rw [List.take_zero]; simpa [encRows] using hown, J5.I, J5.B⟩
  have HBW := Lib.hid hB0w
  clear o5 b5 J5 hown J0 J1 J2 b0 b1 b2 HI1 HIT1 HIT2 HIT3 hB0 A1 A2 A3 A4 A5 A6 hc6s hc6l HC6 hB0w
  go_upto_region 4 with fail
  go_upto_region 5 with fail
  (try clear i0 i1 i2 z0 z1 z2 il)
  go_loopg [5, 6, 7, 8, 9, 10] H (fun gh v5 v6 v7 v8 v9 v10 wr => ∃ y : Nat, y + gh = H ∧ v6 = .int .i64 (y : Int) ∧ Hid (RwI w wr W H n c a B0 v5 (hdrL K W H ++ encRows K ((rowsOf l W H).take y))))
  case atStart => exact ⟨0, by omega, rfl, HR0⟩
  case round =>
    clear HR0
    obtain ⟨y, hy, rfl, HR⟩ := hrel
    obtain ⟨i0, i1, i2, z0, z1, z2, il⟩ := IB.all HR.out.I
    by_cases hyH : y < H
    · have hyI : (y : Int) < (H : Int) := by omega
      obtain ⟨m, rfl⟩ : ∃ m, gk = m + 1 := ⟨gk - 1, by omega⟩
      go_upto_region 9 with fail
      clear i0 i1 i2 z0 z1 z2 il
      have HR1 : Hid (RwI w wr W H n c a B0 u5 (hdrL K W H ++ encRows K ((rowsOf l W H).take y) ++ full4 (rowOf l W y) 0)) := Lib.hid (by rw [full4_zero, List.append_nil]; exact HR.out)
      obtain ⟨wo, hwo⟩ : ∃ wo, wo = wr := ⟨_, rfl⟩
      subst hwo
      go_loopg [5, 7, 8, 9, 10] W (fun gx v5 v7 v8 v9 v10 wx => ∃ x : Nat, x + gx = W ∧ v9 = .int .i64 (x : Int) ∧ v7 = .int .i64 (v4 (rowOf l W y) x : Int) ∧ v8 = .int .i64 ((x % 8 : Nat) : Int) ∧ Hid (RwI w wx W H n c a B0 v5 (hdrL K W H ++ encRows K ((rowsOf l W H).take y) ++ full4 (rowOf l W y) x)))
      case atStart => exact ⟨0, by omega, rfl, by rw [v4_start rfl]; rfl, rfl, HR1⟩
      case round =>
        clear HR1 HR
        obtain ⟨x, hx, rfl, rfl, rfl, HR2⟩ := hrel
        obtain ⟨i0, i1, i2, z0, z1, z2, il⟩ := IB.all HR2.out.I
        by_cases hxW : x < W
        · have hxI : (x : Int) < (W : Int) := by omega
          obtain ⟨g', rfl⟩ : ∃ g', gk = g' + 1 := ⟨gk - 1, by omega⟩
          have HPX := Lib.hid (HP.out x y hxW hyH _ (HBY.out.below HR2.out.B))
          obtain ⟨q, hq⟩ : ∃ q, pcAt l (y * W + x) = q := ⟨_, rfl⟩
          have hrow := row_at (l := l) (W := W) (y := y) hxW
          rw [hq] at HPX hrow
          unfold Qc.v at HPX
          have HQ := Lib.hid hq
          have HRO := Lib.hid hrow
          clear hq hrow
          go_upto_region 12 with (go_at_call 30; refine HPX.out.mono ?_; rintro e w7 ⟨rfl, b7⟩; have HR7 := Lib.hid ((HR2.out.below b7).alloc (.cells #[.int .u8 (q.r.toNat : Int), .int .u8 (q.g.toNat : Int), .int .u8 (q.b.toNat : Int), .int .u8 (q.a.toNat : Int)] 48)); have C7 : CB (w7.alloc (.cells #[.int .u8 (q.r.toNat : Int), .int .u8 (q.g.toNat : Int), .int .u8 (q.b.toNat : Int), .int .u8 (q.a.toNat : Int)] 48)) w7.heap.size (q.r.toNat : Int) (q.g.toNat : Int) (q.b.toNat : Int) (q.a.toNat : Int) := Blk.new _ _ _; clear i0 i1 i2 z0 z1 z2 il)
          clear HR2 HPX b7
          generalize w7.alloc (.cells #[.int .u8 (q.r.toNat : Int), .int .u8 (q.g.toNat : Int), .int .u8 (q.b.toNat : Int), .int .u8 (q.a.toNat : Int)] 48) = w8 at HR7 C7 ⊢
          generalize w7.heap.size = qc at C7 ⊢
          have c0 := C7.c0
          have c1 := C7.c1
          have c2 := C7.c2
          have hbs := HR7.out.hs
          have HBI := Lib.hid (bit_of HRO.out (by rw [← HQ.out]; exact mayAll_all HM.out _ (by have := Nat.mul_le_mul (show y + 1 ≤ H by omega) (Nat.le_refl W); rw [Nat.add_mul, Nat.one_mul] at this; rw [Nat.mul_comm W H]; omega)))
          obtain ⟨v, hv⟩ : ∃ v, v4 (rowOf l W y) x = v := ⟨_, rfl⟩
          have hvl : v ≤ 127 := by rw [← hv]; exact v4_le _ _
          obtain ⟨b, hbq⟩ : ∃ b, bit4 (rowOf l W y) x = b := ⟨_, rfl⟩
          have hbl : b ≤ 1 := by rw [← hbq]; exact bit4_le _ _
          obtain ⟨t, ht⟩ : ∃ t, 1 - b = t := ⟨_, rfl⟩
          obtain ⟨k, hk⟩ : ∃ k, x % 8 = k := ⟨_, rfl⟩
          obtain ⟨k1, hk1⟩ : ∃ k1, k + 1 = k1 := ⟨_, rfl⟩
          obtain ⟨V, hV⟩ : ∃ V, 2 * v + b = V := ⟨_, rfl⟩
          have hqI := HBI.out
          rw [hbq, ht] at hqI
          rw [hv]
          have w1 : IntKind.i64.wrap (2 * (v : Int)) = 2 * (v : Int) := IntWalk.i64_in _ (by omega)
          have w2 : IntKind.i64.wrap (2 * (v : Int) + 1) = 2 * (v : Int) + 1 := IntWalk.i64_in _ (by omega)
          have w3 : IntKind.i64.wrap (q.r.toNat : Int) = (q.r.toNat : Int) := IntWalk.i64_in _ (by have := q.r.toNat_lt; omega)
          have w4 : IntKind.i64.wrap (t : Int) = (t : Int) := IntWalk.i64_in _ (by omega)
          have w5' : IntKind.i64.wrap (2 * (v : Int) + 1 - (t : Int)) = (V : Int) := by rw [show 2 * (v : Int) + 1 - (t : Int) = (V : Int) by omega]; exact IntWalk.i64_in _ (by omega)
          have w6 : IntKind.i64.wrap ((k : Int) + 1) = (k1 : Int) := by rw [show (k : Int) + 1 = (k1 : Int) by omega]; exact IntWalk.i64_in _ (by omega)
          have w7' : IntKind.u8.wrap (V : Int) = (V : Int) := IntWalk.u8_in _ (by omega)
          have HV := Lib.hid (And.intro hv (And.intro hbq (And.intro hk (And.intro hk1 hV))))
          have hxk : (x : Int) % 8 = (k : Int) := by omega
          rw [hxk]
          clear hv hbq HBI ht hV
          go_upto_region 19 with fail
          by_cases h7 : k1 = 8
          · have h8B : ((k1 : Int) == 8) = true := by rw [beq_iff_eq]; omega
            have hlen : (hdrL K W H ++ encRows K ((rowsOf l W H).take y) ++ full4 (rowOf l W y) x).length + 1 < 1099511627776 := by
              have h1 := enc_small2 (l := l) (y := y) HK3.out hWb hHb
              rw [List.length_append, full4_len]
              omega
            have hbs2 : B0 ≤ (w8.alloc (.cells #[.int .u8 (V : Int)] 5)).heap.size := (HR7.out.alloc _).hs
            have hc8 : Hid ((#[.int .u8 (V : Int)] : Array Value).toList = C8 [UInt8.ofNat V]) := Lib.hid <| by unfold C8; simp only [List.map_cons, List.map_nil]; rw [UInt8.toNat_ofNat', Nat.mod_eq_of_lt (by have := HV.out.2.2.2.2; omega)]
            have HE := Lib.hid (show full4 (rowOf l W y) (x + 1) = full4 (rowOf l W y) x ++ [UInt8.ofNat V] by obtain ⟨e1, e2, e3, e4, e5⟩ := HV.out; rw [full4_more (by omega), e1, e2, e5])
            go_upto_region 21 with (at_builtin; refine wpList_append_sliceM rfl (.tmp 79) (.tmp 82) rfl B0 _ _ rfl (HR7.out.alloc _).O _ 1 1 [UInt8.ofNat V] rfl rfl (cellsW_new hc8.out) hlen hbs2 ?_; intro v9 w9 o9 b9)
            have HR9 : Hid (RwI w w9 W H n c a B0 v9 (hdrL K W H ++ encRows K ((rowsOf l W H).take y) ++ full4 (rowOf l W y) (x + 1))) := Lib.hid (by rw [HE.out, ← List.append_assoc]; exact (HR7.out.alloc _).next HBW.out o9 b9)
            clear o9 b9 C7 HR7 c0 c1 c2 hbs hlen hbs2 hc8
            go_wp2_with fail
            go_roundg g'
            case measure => omega
            case rel => exact ⟨x + 1, by omega, by go_num, by rw [v4_start (by omega)]; rfl, by rw [show (x + 1) % 8 = 0 by omega]; rfl, HR9⟩
          · have h8B : ((k1 : Int) == 8) = false := by rw [beq_eq_false_iff_ne]; omega
            have hke : ¬ (x % 8 = 7) := by omega
            have HR9 : Hid (RwI w w8 W H n c a B0 u5 (hdrL K W H ++ encRows K ((rowsOf l W H).take y) ++ full4 (rowOf l W y) (x + 1))) := Lib.hid (by rw [full4_same hke]; exact HR7.out)
            clear C7 HR7 c0 c1 c2 hbs
            go_wp2_with fail
            go_roundg g'
            case measure => omega
            case rel => exact ⟨x + 1, by omega, by go_num, by obtain ⟨e1, e2, e3, e4, e5⟩ := HV.out; rw [v4_next hke, e1, e2, e5], by rw [show (x + 1) % 8 = k1 by omega], HR9⟩
        · obtain rfl : x = W := by omega
          obtain rfl : gk = 0 := by omega
          have hxI : ¬ (x : Int) < (x : Int) := by omega
          by_cases hz : x % 8 = 0
          · rw [hz]
            have HR3 : Hid (RwI w wr x H n c a B0 u5 (hdrL K x H ++ encRows K ((rowsOf l x H).take (y + 1)))) := Lib.hid (by
              rw [rows_next hyH, show encRow K (rowOf l x y) = row4B (rowOf l x y) by rw [HK14.out]; unfold encRow; rw [if_neg (by decide), if_pos rfl], ← full4_end (rowOf_len l x y) hz, ← List.append_assoc]
              exact HR2.out)
            clear HR2
            go_wp2_with fail
            go_roundg m
            case measure => omega
            case rel => exact ⟨y + 1, by omega, by go_num, HR3⟩
          · obtain ⟨k, hk⟩ : ∃ k, x % 8 = k := ⟨_, rfl⟩
            obtain ⟨j, hj⟩ : ∃ j, 8 - k = j := ⟨_, rfl⟩
            obtain ⟨v, hv⟩ : ∃ v, v4 (rowOf l x y) x = v := ⟨_, rfl⟩
            have hb4 := v4_back (rowOf l x y) x
            have hlt := pk4_lt ((rowOf l x y).take x) (x / 8)
            have hrest := full4_rest (rowOf_len l x y) hz
            rw [hk, hj, hv] at hrest hb4
            rw [hk, hv]
            obtain ⟨pw, hpw⟩ : ∃ pw, 2 ^ j = pw := ⟨_, rfl⟩
            have HPW := Lib.hid (fun w => refPower_any j w (by omega))
            rw [hpw] at HPW hrest hb4
            obtain ⟨Z, hZ⟩ : ∃ Z, v * pw = Z := ⟨_, rfl⟩
            rw [hZ] at hrest hb4
            have hkI : (0 : Int) < (k : Int) := by omega
            have w1 : IntKind.i64.wrap (8 - (k : Int)) = (j : Int) := by rw [show 8 - (k : Int) = (j : Int) by omega]; exact IntWalk.i64_in _ (by omega)
            have w2 : IntKind.i64.wrap ((v : Int) * (pw : Int)) = (Z : Int) := by rw [← Int.natCast_mul, hZ]; exact IntWalk.i64_in _ (by omega)
            have w3 : IntKind.u8.wrap (Z : Int) = (Z : Int) := IntWalk.u8_in _ (by omega)
            have hc8 : Hid ((#[.int .u8 (Z : Int)] : Array Value).toList = C8 [UInt8.ofNat Z]) := Lib.hid <| by unfold C8; simp only [List.map_cons, List.map_nil]; rw [UInt8.toNat_ofNat', Nat.mod_eq_of_lt (by omega)]
            have hlen : (hdrL K x H ++ encRows K ((rowsOf l x H).take y) ++ full4 (rowOf l x y) x).length + 1 < 1099511627776 := by
              have h1 := enc_small2 (l := l) (y := y) HK3.out hWb hHb
              rw [List.length_append, full4_len]
              omega
            have HE := Lib.hid (show encRow K (rowOf l x y) = full4 (rowOf l x y) x ++ [UInt8.ofNat Z] by rw [hrest, HK14.out]; unfold encRow; rw [if_neg (by decide), if_pos rfl])
            clear hb4 hlt hrest hpw hZ hv hj hk
            go_upto_region 23 with fail
            clear i0 i1 i2 z0 z1 z2 il
            go_upto_region 6 with ((first | (go_at_call 40; refine (HPW.out _).mono ?_; rintro e w'8 ⟨rfl, rfl⟩; have hbs2 : B0 ≤ (wr.alloc (.cells #[.int .u8 (Z : Int)] 5)).heap.size := (HR2.out.alloc _).hs) | (at_builtin; refine wpList_append_sliceM rfl (.tmp 86) (.tmp 93) rfl B0 _ _ rfl (HR2.out.alloc _).O _ 1 1 [UInt8.ofNat Z] rfl rfl (cellsW_new hc8.out) hlen hbs2 ?_; intro v9 w9 o9 b9)))
            have HR3 : Hid (RwI w w9 x H n c a B0 v9 (hdrL K x H ++ encRows K ((rowsOf l x H).take (y + 1)))) := Lib.hid (by
              rw [rows_next hyH, HE.out, ← List.append_assoc, ← List.append_assoc]
              exact (HR2.out.alloc _).next HBW.out o9 b9)
            clear o9 b9 HR2 hc8 hlen hbs2
            go_wp2_with fail
            go_roundg m
            case measure => omega
            case rel => exact ⟨y + 1, by omega, by go_num, HR3⟩
    · obtain rfl : y = H := by omega
      obtain rfl : gk = 0 := by omega
      have hyI : ¬ (y : Int) < (y : Int) := by omega
      have hO := HR.out.O
      rw [List.take_of_length_le (show (rowsOf l W y).length ≤ y by unfold rowsOf; simp)] at hO
      have HO := Lib.hid hO
      clear hO
      go_wp2_with (refine wpList_convert_M rfl (.tmp 95) 9 Tryz.underlying9 rfl _ _ _ rfl HO.out ?_)
      go_ret
      exact ⟨HR.out.B, rfl⟩
set_option maxRecDepth 100000 in
set_option maxHeartbeats 8000000 in
theorem refWrite_5 {K : Nat} (hK : K = 5) {W H n c : Nat} {a : Option Addr} {l : List UInt8} {w : World} (hr : RightP (W : Int) (H : Int) n) (hl : n = l.length) (hnc : n ≤ c) (hb : BytesAt w a n l) (hWb : W ≤ 4000) (hHb : H ≤ 4000) (hm : mayAll K l (W * H) = true) : Calls Tryz.prog 15 #[.agg #[.int .i64 (W : Int), .int .i64 (H : Int), .slice a n c], .int .i64 (K : Int)] w fun e w' => Below w.heap.size w w' ∧ e = .returned (.string (strOf (encL K W H l))) := by
  have hW := hr.1
  have hH := hr.2.1
  have hK4b : (4 : Int) < (K : Int) := by omega
  have hKa : ((K : Int) == 5) = true := by subst hK; rfl
  have hKb : ((K : Int) == 6) = false := by subst hK; rfl
  have hKc : ((K : Int) == 4) = false := by subst hK; rfl
  have hKt : K ≤ 6 := by omega
  have HK3 : Hid (K = 4 ∨ K = 5 ∨ K = 6) := Lib.hid (by omega)
  have HK14 : Hid (K = 5) := Lib.hid hK
  have HM := Lib.hid (hK ▸ hm : mayAll 5 l (W * H) = true)
  have HP := Lib.hid (fun (X Y : Nat) (hX : X < W) (hY : Y < H) => (px_both (a := a) hr hl hnc hX hY).2)
  have HBY := Lib.hid hb
  have HIT1 := Lib.hid (refDigitsC K (by omega))
  have HIT2 := Lib.hid (refDigitsC W (by omega))
  have HIT3 := Lib.hid (refDigitsC H (by omega))
  have W1 : WiI w (w.alloc (.cells #[.int .i64 (W : Int), .int .i64 (H : Int), .slice a n c] 24)) W H n c a l := WiI.new hb
  have z1 := dec_size K
  have z2 := dec_size W
  have z3 := dec_size H
  have z4 : (⟨#[80]⟩ : ByteArray).size = 1 := rfl
  have z5 : (⟨#[10]⟩ : ByteArray).size = 1 := rfl
  have z6 : (⟨#[32]⟩ : ByteArray).size = 1 := rfl
  obtain ⟨c1, hc1⟩ : ∃ c1, (⟨#[80]⟩ : ByteArray) ++ dec K = c1 := ⟨_, rfl⟩
  have s1 : c1.size = 1 + (dec K).size := by rw [← hc1, ByteArray.size_append, z4]
  have A1 : ∀ w : World, (Op.stringOp .add ⟨#[80]⟩ (dec K)).run Tryz.prog w = .ok (.string c1) w := fun w => by rw [← hc1]; exact run_string_add_sum w _ _ (by omega)
  obtain ⟨c2, hc2⟩ : ∃ c2, c1 ++ ⟨#[10]⟩ = c2 := ⟨_, rfl⟩
  have s2 : c2.size = c1.size + 1 := by rw [← hc2, ByteArray.size_append, z5]
  have A2 : ∀ w : World, (Op.stringOp .add c1 ⟨#[10]⟩).run Tryz.prog w = .ok (.string c2) w := fun w => by rw [← hc2]; exact run_string_add_sum w _ _ (by omega)
  obtain ⟨c3, hc3⟩ : ∃ c3, c2 ++ dec W = c3 := ⟨_, rfl⟩
  have s3 : c3.size = c2.size + (dec W).size := by rw [← hc3, ByteArray.size_append]
  have A3 : ∀ w : World, (Op.stringOp .add c2 (dec W)).run Tryz.prog w = .ok (.string c3) w := fun w => by rw [← hc3]; exact run_string_add_sum w _ _ (by omega)
  obtain ⟨c4, hc4⟩ : ∃ c4, c3 ++ ⟨#[32]⟩ = c4 := ⟨_, rfl⟩
  have s4 : c4.size = c3.size + 1 := by rw [← hc4, ByteArray.size_append, z6]
  have A4 : ∀ w : World, (Op.stringOp .add c3 ⟨#[32]⟩).run Tryz.prog w = .ok (.string c4) w := fun w => by rw [← hc4]; exact run_string_add_sum w _ _ (by omega)
  obtain ⟨c5, hc5⟩ : ∃ c5, c4 ++ dec H = c5 := ⟨_, rfl⟩
  have s5 : c5.size = c4.size + (dec H).size := by rw [← hc5, ByteArray.size_append]
  have A5 : ∀ w : World, (Op.stringOp .add c4 (dec H)).run Tryz.prog w = .ok (.string c5) w := fun w => by rw [← hc5]; exact run_string_add_sum w _ _ (by omega)
  obtain ⟨c6, hc6⟩ : ∃ c6, c5 ++ ⟨#[10]⟩ = c6 := ⟨_, rfl⟩
  have s6 : c6.size = c5.size + 1 := by rw [← hc6, ByteArray.size_append, z5]
  have A6 : ∀ w : World, (Op.stringOp .add c5 ⟨#[10]⟩).run Tryz.prog w = .ok (.string c6) w := fun w => by rw [← hc6]; exact run_string_add_sum w _ _ (by omega)
  have hc6s : c6.size ≤ 1000000 := by omega
  have hc6l : c6.data.toList = hdrA K W H := by rw [← hc6, ← hc5, ← hc4, ← hc3, ← hc2, ← hc1]; exact hdr_text (by omega)
  have HC6 := Lib.hid hc6l
  generalize dec K = dK at A1 s1 HIT1
  generalize dec W = dW at A3 s3 HIT2
  generalize dec H = dH at A5 s5 HIT3
  have hc6l := HC6.out
  clear hr hl hnc hb hc1 hc2 hc3 hc4 hc5 hc6 s1 s2 s3 s4 s5 s6 z1 z2 z3 z4 z5 z6 hc6l hK hm
  go_enter Tryz.func15, Tryz.ntmps15
  have HI1 := Lib.hid W1
  obtain ⟨i0, i1, i2, z0, z1, z2, il⟩ := IB.all W1.I
  clear i2 z0 z1 z2 il W1
  go_upto_region 1 with fail
  refine wp_region_held_drew (S := fun wx => wx.cell? ⟨w.heap.size, 0, none⟩ = some (.int .i64 (W : Int)) ∧ wx.cell? ⟨w.heap.size, 1, none⟩ = some (.int .i64 (H : Int))) (by kernel_rfl) ⟨i0, i1⟩ (fun hHeld => ?_)
  refine wpAnyH_take (i := 0) (v := ?_) rfl (by kernel_rfl) (by kernel_rfl) (by kernel_rfl) (fun _ _ _ h => h) (Or.inl ⟨by kernel_rfl, ?_⟩) (by assumption) ?_
  rotate_left
  · intro w hSw; obtain ⟨s0, s1⟩ := hSw; go_simp; (try with_reducible rfl)
  (try simp only [Act.put, List.getElem_toArray, List.getElem_cons_succ, List.getElem_cons_zero, List.setIfInBounds_toArray, List.set_cons_zero, List.set_cons_succ])
  refine wpAnyH_take (i := 4) (v := ?_) rfl (by kernel_rfl) (by kernel_rfl) (by kernel_rfl) (fun _ _ _ h => h) (Or.inl ⟨by kernel_rfl, ?_⟩) (by assumption) ?_
  rotate_left
  · intro w hSw; obtain ⟨s0, s1⟩ := hSw; go_simp; (try with_reducible rfl)
  (try simp only [Act.put, List.getElem_toArray, List.getElem_cons_succ, List.getElem_cons_zero, List.setIfInBounds_toArray, List.set_cons_zero, List.set_cons_succ])
  refine wpAnyH_take (i := 5) (v := ?_) rfl (by kernel_rfl) (by kernel_rfl) (by kernel_rfl) (fun _ _ _ h => h) (Or.inl ⟨by kernel_rfl, ?_⟩) (by assumption) ?_
  rotate_left
  · intro w hSw; obtain ⟨s0, s1⟩ := hSw; go_simp; (try with_reducible rfl)
  (try simp only [Act.put, List.getElem_toArray, List.getElem_cons_succ, List.getElem_cons_zero, List.setIfInBounds_toArray, List.set_cons_zero, List.set_cons_succ])
  refine wpAnyH_take (i := 9) (v := ?_) rfl (by kernel_rfl) (by kernel_rfl) (by kernel_rfl) (fun _ _ _ h => h) (Or.inl ⟨by kernel_rfl, ?_⟩) (by assumption) ?_
  rotate_left
  · intro w hSw; obtain ⟨s0, s1⟩ := hSw; go_simp; (try with_reducible rfl)
  (try simp only [Act.put, List.getElem_toArray, List.getElem_cons_succ, List.getElem_cons_zero, List.setIfInBounds_toArray, List.set_cons_zero, List.set_cons_succ])
  refine wpAnyH_take (i := 10) (v := ?_) rfl (by kernel_rfl) (by kernel_rfl) (by kernel_rfl) (fun _ _ _ h => h) (Or.inl ⟨by kernel_rfl, ?_⟩) (by assumption) ?_
  rotate_left
  · intro w hSw; obtain ⟨s0, s1⟩ := hSw; go_simp; (try with_reducible rfl)
  (try simp only [Act.put, List.getElem_toArray, List.getElem_cons_succ, List.getElem_cons_zero, List.setIfInBounds_toArray, List.set_cons_zero, List.set_cons_succ])
  refine wpAnyH_ready (rs := [1]) (by kernel_rfl) (by simp) ?_
  refine AllReadyH.cons rfl (fun K hK => ?_) AllReadyH.nil
  go_simp
  refine (HIT1.out _).mono ?_
  rintro e w'0 ⟨rfl, b0⟩
  have J0 := (HI1.out.drew).below b0
  refine hK.out _ _ (⟨Blk.cell J0.I 0, Blk.cell J0.I 1⟩) (fun hHeld' => ?_)
  clear hK K hHeld
  have hHeld := hHeld'
  clear hHeld'
  (try simp only [Act.put, List.getElem_toArray, List.getElem_cons_succ, List.getElem_cons_zero, List.setIfInBounds_toArray, List.set_cons_zero, List.set_cons_succ])
  refine wpAnyH_take (i := 2) (v := ?_) rfl (by kernel_rfl) (by kernel_rfl) (by kernel_rfl) (fun _ _ _ h => h) (Or.inl ⟨by kernel_rfl, ?_⟩) (by assumption) ?_
  rotate_left
  · intro w hSw; obtain ⟨s0, s1⟩ := hSw; go_simp; (try with_reducible rfl)
  (try simp only [Act.put, List.getElem_toArray, List.getElem_cons_succ, List.getElem_cons_zero, List.setIfInBounds_toArray, List.set_cons_zero, List.set_cons_succ])
  refine wpAnyH_take (i := 3) (v := ?_) rfl (by kernel_rfl) (by kernel_rfl) (by kernel_rfl) (fun _ _ _ h => h) (Or.inl ⟨by kernel_rfl, ?_⟩) (by assumption) ?_
  rotate_left
  · intro w hSw; obtain ⟨s0, s1⟩ := hSw; go_simp; (try with_reducible rfl)
  (try simp only [Act.put, List.getElem_toArray, List.getElem_cons_succ, List.getElem_cons_zero, List.setIfInBounds_toArray, List.set_cons_zero, List.set_cons_succ])
  refine wpAnyH_ready (rs := [6]) (by kernel_rfl) (by simp) ?_
  refine AllReadyH.cons rfl (fun K hK => ?_) AllReadyH.nil
  go_simp
  refine (HIT2.out _).mono ?_
  rintro e w'1 ⟨rfl, b1⟩
  have J1 := (J0).below b1
  refine hK.out _ _ (⟨Blk.cell J1.I 0, Blk.cell J1.I 1⟩) (fun hHeld' => ?_)
  clear hK K hHeld
  have hHeld := hHeld'
  clear hHeld'
  (try simp only [Act.put, List.getElem_toArray, List.getElem_cons_succ, List.getElem_cons_zero, List.setIfInBounds_toArray, List.set_cons_zero, List.set_cons_succ])
  refine wpAnyH_take (i := 7) (v := ?_) rfl (by kernel_rfl) (by kernel_rfl) (by kernel_rfl) (fun _ _ _ h => h) (Or.inl ⟨by kernel_rfl, ?_⟩) (by assumption) ?_
  rotate_left
  · intro w hSw; obtain ⟨s0, s1⟩ := hSw; go_simp; (try with_reducible rfl)
  (try simp only [Act.put, List.getElem_toArray, List.getElem_cons_succ, List.getElem_cons_zero, List.setIfInBounds_toArray, List.set_cons_zero, List.set_cons_succ])
  refine wpAnyH_take (i := 8) (v := ?_) rfl (by kernel_rfl) (by kernel_rfl) (by kernel_rfl) (fun _ _ _ h => h) (Or.inl ⟨by kernel_rfl, ?_⟩) (by assumption) ?_
  rotate_left
  · intro w hSw; obtain ⟨s0, s1⟩ := hSw; go_simp; (try with_reducible rfl)
  (try simp only [Act.put, List.getElem_toArray, List.getElem_cons_succ, List.getElem_cons_zero, List.setIfInBounds_toArray, List.set_cons_zero, List.set_cons_succ])
  refine wpAnyH_ready (rs := [11]) (by kernel_rfl) (by simp) ?_
  refine AllReadyH.cons rfl (fun K hK => ?_) AllReadyH.nil
  go_simp
  refine (HIT3.out _).mono ?_
  rintro e w'2 ⟨rfl, b2⟩
  have J2 := (J1).below b2
  refine hK.out _ _ (⟨Blk.cell J2.I 0, Blk.cell J2.I 1⟩) (fun hHeld' => ?_)
  clear hK K hHeld
  have hHeld := hHeld'
  clear hHeld'
  (try simp only [Act.put, List.getElem_toArray, List.getElem_cons_succ, List.getElem_cons_zero, List.setIfInBounds_toArray, List.set_cons_zero, List.set_cons_succ])
  refine wpAnyH_take (i := 12) (v := ?_) rfl (by kernel_rfl) (by kernel_rfl) (by kernel_rfl) (fun _ _ _ h => h) (Or.inl ⟨by kernel_rfl, ?_⟩) (by assumption) ?_
  rotate_left
  · intro w hSw; obtain ⟨s0, s1⟩ := hSw; go_simp; (try with_reducible rfl)
  (try simp only [Act.put, List.getElem_toArray, List.getElem_cons_succ, List.getElem_cons_zero, List.setIfInBounds_toArray, List.set_cons_zero, List.set_cons_succ])
  refine wpAnyH_take (i := 13) (v := ?_) rfl (by kernel_rfl) (by kernel_rfl) (by kernel_rfl) (fun _ _ _ h => h) (Or.inl ⟨by kernel_rfl, ?_⟩) (by assumption) ?_
  rotate_left
  · intro w hSw; obtain ⟨s0, s1⟩ := hSw; go_simp; (try with_reducible rfl)
  (try simp only [Act.put, List.getElem_toArray, List.getElem_cons_succ, List.getElem_cons_zero, List.setIfInBounds_toArray, List.set_cons_zero, List.set_cons_succ])
  refine wpAnyH_ready (rs := [14]) (by kernel_rfl) (by simp) ?_
  refine AllReadyH.cons rfl (fun K hK => ?_) AllReadyH.nil
  refine step_bytes rfl _ rfl c6 rfl hc6s ?_
  intro v5 w5 o5 b5
  have J5 := J2.below b5
  refine hK.out _ _ (⟨Blk.cell J5.I 0, Blk.cell J5.I 1⟩) (fun hHeld' => ?_)
  clear hK K hHeld
  have hHeld := hHeld'
  clear hHeld'
  (try simp only [Act.put, List.getElem_toArray, List.getElem_cons_succ, List.getElem_cons_zero, List.setIfInBounds_toArray, List.set_cons_zero, List.set_cons_succ])
  refine wpAnyH_take (i := 15) (v := ?_) rfl (by kernel_rfl) (by kernel_rfl) (by kernel_rfl) (fun _ _ _ h => h) (Or.inl ⟨by kernel_rfl, ?_⟩) (by assumption) ?_
  rotate_left
  · intro w hSw; obtain ⟨s0, s1⟩ := hSw; go_simp; (try with_reducible rfl)
  (try simp only [Act.put, List.getElem_toArray, List.getElem_cons_succ, List.getElem_cons_zero, List.setIfInBounds_toArray, List.set_cons_zero, List.set_cons_succ])
  refine wpAnyH_done (by kernel_rfl) ?_ _
  (try simp only [List.getElem_toArray, List.getElem_cons_succ, List.getElem_cons_zero, List.set_cons_zero, List.set_cons_succ])
  clear hHeld
  obtain ⟨B0, hB0⟩ : ∃ B0, w'2.heap.size = B0 := ⟨_, rfl⟩
  rw [hB0] at o5
  clear i0 i1
  have i0 : w5.cell? ⟨w.heap.size, 0, none⟩ = some (.int .i64 (W : Int)) := Blk.cell J5.I 0
  have i1 : w5.cell? ⟨w.heap.size, 1, none⟩ = some (.int .i64 (H : Int)) := Blk.cell J5.I 1
  have hl5 : (c6.data.toList).length + 4 < 1099511627776 := by
    have : c6.data.toList.length = c6.size := by rw [Array.length_toList]; rfl
    omega
  have hB0w : w.heap.size < B0 := by rw [← hB0]; exact Blk.lt J2.I
  have hR5 : RwI w w5 W H n c a B0 v5 c6.data.toList := ⟨o5, J5.I, J5.B⟩
  have hbs5 : B0 ≤ (w5.alloc (.cells #[.int .u8 50, .int .u8 53, .int .u8 53, .int .u8 10] 5)).heap.size := (hR5.alloc _).hs
  go_upto_region 4 with (at_builtin; refine wpList_append_sliceM rfl (.tmp 28) (.tmp 29) rfl B0 _ _ rfl (hR5.alloc _).O _ 4 4 [50, 53, 53, 10] rfl rfl (cellsW_new rfl) hl5 hbs5 ?_; intro v6 w6 o6 b6)
  have HR0 : Hid (RwI w w6 W H n c a B0 v6 (hdrL K W H ++ encRows K ((rowsOf l W H).take 0))) := Lib.hid (by
    rw [List.take_zero, show encRows K [] = [] from rfl, List.append_nil, ← hdrA_more W H (by have := HK14.out; omega), ← HC6.out]
    exact (hR5.alloc _).next hB0w o6 b6)
  have HBW := Lib.hid hB0w
  have HKL : Hid (K = 5 ∨ K = 6) := Lib.hid (by have := HK14.out; omega)
  clear o5 b5 J5 hR5 J0 J1 J2 b0 b1 b2 HI1 HIT1 HIT2 HIT3 hB0 A1 A2 A3 A4 A5 A6 hc6s hc6l HC6 o6 b6 hl5 hbs5 hB0w
  go_upto_region 5 with fail
  (try clear i0 i1 i2 z0 z1 z2 il)
  go_loopg [5, 6, 7, 8, 9, 10] H (fun gh v5 v6 v7 v8 v9 v10 wr => ∃ y : Nat, y + gh = H ∧ v6 = .int .i64 (y : Int) ∧ Hid (RwI w wr W H n c a B0 v5 (hdrL K W H ++ encRows K ((rowsOf l W H).take y))))
  case atStart => exact ⟨0, by omega, rfl, HR0⟩
  case round =>
    clear HR0
    obtain ⟨y, hy, rfl, HR⟩ := hrel
    obtain ⟨i0, i1, i2, z0, z1, z2, il⟩ := IB.all HR.out.I
    by_cases hyH : y < H
    · have hyI : (y : Int) < (H : Int) := by omega
      obtain ⟨m, rfl⟩ : ∃ m, gk = m + 1 := ⟨gk - 1, by omega⟩
      go_upto_region 9 with fail
      clear i0 i1 i2 z0 z1 z2 il
      have HR1 : Hid (RwI w wr W H n c a B0 u5 (hdrL K W H ++ encRows K ((rowsOf l W H).take y) ++ pxs K (rowOf l W y) 0)) := Lib.hid (by rw [pxs_zero, List.append_nil]; exact HR.out)
      obtain ⟨wo, hwo⟩ : ∃ wo, wo = wr := ⟨_, rfl⟩
      subst hwo
      go_loopg [5, 7, 8, 9, 10] W (fun gx v5 v7 v8 v9 v10 wx => ∃ x : Nat, x + gx = W ∧ v9 = .int .i64 (x : Int) ∧ v7 = .int .i64 0 ∧ v8 = .int .i64 0 ∧ Hid (RwI w wx W H n c a B0 v5 (hdrL K W H ++ encRows K ((rowsOf l W H).take y) ++ pxs K (rowOf l W y) x)))
      case atStart => exact ⟨0, by omega, rfl, rfl, rfl, HR1⟩
      case round =>
        clear HR1 HR
        obtain ⟨x, hx, rfl, rfl, rfl, HR2⟩ := hrel
        obtain ⟨i0, i1, i2, z0, z1, z2, il⟩ := IB.all HR2.out.I
        by_cases hxW : x < W
        · have hxI : (x : Int) < (W : Int) := by omega
          obtain ⟨g', rfl⟩ : ∃ g', gk = g' + 1 := ⟨gk - 1, by omega⟩
          have HPX := Lib.hid (HP.out x y hxW hyH _ (HBY.out.below HR2.out.B))
          obtain ⟨q, hq⟩ : ∃ q, pcAt l (y * W + x) = q := ⟨_, rfl⟩
          have hrow := row_at (l := l) (W := W) (y := y) hxW
          rw [hq] at HPX hrow
          unfold Qc.v at HPX
          have HQ := Lib.hid hq
          have HRO := Lib.hid hrow
          clear hq hrow
          go_upto_region 12 with (go_at_call 30; refine HPX.out.mono ?_; rintro e w7 ⟨rfl, b7⟩; have HR7 := Lib.hid ((HR2.out.below b7).alloc (.cells #[.int .u8 (q.r.toNat : Int), .int .u8 (q.g.toNat : Int), .int .u8 (q.b.toNat : Int), .int .u8 (q.a.toNat : Int)] 48)); have C7 : CB (w7.alloc (.cells #[.int .u8 (q.r.toNat : Int), .int .u8 (q.g.toNat : Int), .int .u8 (q.b.toNat : Int), .int .u8 (q.a.toNat : Int)] 48)) w7.heap.size (q.r.toNat : Int) (q.g.toNat : Int) (q.b.toNat : Int) (q.a.toNat : Int) := Blk.new _ _ _; clear i0 i1 i2 z0 z1 z2 il)
          clear HR2 HPX b7
          generalize w7.alloc (.cells #[.int .u8 (q.r.toNat : Int), .int .u8 (q.g.toNat : Int), .int .u8 (q.b.toNat : Int), .int .u8 (q.a.toNat : Int)] 48) = w8 at HR7 C7 ⊢
          generalize w7.heap.size = qc at C7 ⊢
          have c0 := C7.c0
          have c1 := C7.c1
          have c2 := C7.c2
          have hbs := HR7.out.hs
          have hlen : (hdrL K W H ++ encRows K ((rowsOf l W H).take y) ++ pxs K (rowOf l W y) x).length + 1 < 1099511627776 := by
            have h1 := enc_small2 (l := l) (y := y) HK3.out hWb hHb
            have h2 := pxs_len K (rowOf l W y) x
            rw [List.length_append]
            omega
          have HE := Lib.hid (show pxs K (rowOf l W y) (x + 1) = pxs K (rowOf l W y) x ++ [q.r] by rw [pxs_more HRO.out]; rcases HK14.out with h; subst h; rfl)
          have hbs2 : B0 ≤ (w8.alloc (.cells #[.int .u8 (q.r.toNat : Int)] 5)).heap.size := (HR7.out.alloc _).hs
          go_upto_region 14 with (at_builtin; refine wpList_append_sliceM rfl (.tmp 49) (.tmp 52) rfl B0 _ _ rfl (HR7.out.alloc _).O _ 1 1 [q.r] rfl rfl (cellsW_new rfl) hlen hbs2 ?_; intro v9 w9 o9 b9)
          have HR9 : Hid (RwI w w9 W H n c a B0 v9 (hdrL K W H ++ encRows K ((rowsOf l W H).take y) ++ pxs K (rowOf l W y) (x + 1))) := Lib.hid (by rw [HE.out, ← List.append_assoc]; exact (HR7.out.alloc _).next HBW.out o9 b9)
          clear o9 b9 C7 HR7 c0 c1 c2 hbs hlen hbs2
          go_wp2_with fail
          go_roundg g'
          case measure => omega
          case rel => exact ⟨x + 1, by omega, by go_num, rfl, rfl, HR9⟩
        · obtain rfl : x = W := by omega
          obtain rfl : gk = 0 := by omega
          have hxI : ¬ (x : Int) < (x : Int) := by omega
          have HR3 : Hid (RwI w wr x H n c a B0 u5 (hdrL K x H ++ encRows K ((rowsOf l x H).take (y + 1)))) := Lib.hid (by
            rw [rows_next hyH, ← pxs_end (rowOf_len l x y) HKL.out, ← List.append_assoc]
            exact HR2.out)
          clear HR2
          go_wp2_with fail
          go_roundg m
          case measure => omega
          case rel => exact ⟨y + 1, by omega, by go_num, HR3⟩
    · obtain rfl : y = H := by omega
      obtain rfl : gk = 0 := by omega
      have hyI : ¬ (y : Int) < (y : Int) := by omega
      have hO := HR.out.O
      rw [List.take_of_length_le (show (rowsOf l W y).length ≤ y by unfold rowsOf; simp)] at hO
      have HO := Lib.hid hO
      clear hO
      go_wp2_with (refine wpList_convert_M rfl (.tmp 95) 9 Tryz.underlying9 rfl _ _ _ rfl HO.out ?_)
      go_ret
      exact ⟨HR.out.B, rfl⟩
set_option maxRecDepth 100000 in
set_option maxHeartbeats 8000000 in
theorem refWrite_6 {K : Nat} (hK : K = 6) {W H n c : Nat} {a : Option Addr} {l : List UInt8} {w : World} (hr : RightP (W : Int) (H : Int) n) (hl : n = l.length) (hnc : n ≤ c) (hb : BytesAt w a n l) (hWb : W ≤ 4000) (hHb : H ≤ 4000) (hm : mayAll K l (W * H) = true) : Calls Tryz.prog 15 #[.agg #[.int .i64 (W : Int), .int .i64 (H : Int), .slice a n c], .int .i64 (K : Int)] w fun e w' => Below w.heap.size w w' ∧ e = .returned (.string (strOf (encL K W H l))) := by
  have hW := hr.1
  have hH := hr.2.1
  have hK4b : (4 : Int) < (K : Int) := by omega
  have hKa : ((K : Int) == 5) = false := by subst hK; rfl
  have hKb : ((K : Int) == 6) = true := by subst hK; rfl
  have hKc : ((K : Int) == 4) = false := by subst hK; rfl
  have hKt : K ≤ 6 := by omega
  have HK3 : Hid (K = 4 ∨ K = 5 ∨ K = 6) := Lib.hid (by omega)
  have HK14 : Hid (K = 6) := Lib.hid hK
  have HM := Lib.hid (hK ▸ hm : mayAll 6 l (W * H) = true)
  have HP := Lib.hid (fun (X Y : Nat) (hX : X < W) (hY : Y < H) => (px_both (a := a) hr hl hnc hX hY).2)
  have HBY := Lib.hid hb
  have HIT1 := Lib.hid (refDigitsC K (by omega))
  have HIT2 := Lib.hid (refDigitsC W (by omega))
  have HIT3 := Lib.hid (refDigitsC H (by omega))
  have W1 : WiI w (w.alloc (.cells #[.int .i64 (W : Int), .int .i64 (H : Int), .slice a n c] 24)) W H n c a l := WiI.new hb
  have z1 := dec_size K
  have z2 := dec_size W
  have z3 := dec_size H
  have z4 : (⟨#[80]⟩ : ByteArray).size = 1 := rfl
  have z5 : (⟨#[10]⟩ : ByteArray).size = 1 := rfl
  have z6 : (⟨#[32]⟩ : ByteArray).size = 1 := rfl
  obtain ⟨c1, hc1⟩ : ∃ c1, (⟨#[80]⟩ : ByteArray) ++ dec K = c1 := ⟨_, rfl⟩
  have s1 : c1.size = 1 + (dec K).size := by rw [← hc1, ByteArray.size_append, z4]
  have A1 : ∀ w : World, (Op.stringOp .add ⟨#[80]⟩ (dec K)).run Tryz.prog w = .ok (.string c1) w := fun w => by rw [← hc1]; exact run_string_add_sum w _ _ (by omega)
  obtain ⟨c2, hc2⟩ : ∃ c2, c1 ++ ⟨#[10]⟩ = c2 := ⟨_, rfl⟩
  have s2 : c2.size = c1.size + 1 := by rw [← hc2, ByteArray.size_append, z5]
  have A2 : ∀ w : World, (Op.stringOp .add c1 ⟨#[10]⟩).run Tryz.prog w = .ok (.string c2) w := fun w => by rw [← hc2]; exact run_string_add_sum w _ _ (by omega)
  obtain ⟨c3, hc3⟩ : ∃ c3, c2 ++ dec W = c3 := ⟨_, rfl⟩
  have s3 : c3.size = c2.size + (dec W).size := by rw [← hc3, ByteArray.size_append]
  have A3 : ∀ w : World, (Op.stringOp .add c2 (dec W)).run Tryz.prog w = .ok (.string c3) w := fun w => by rw [← hc3]; exact run_string_add_sum w _ _ (by omega)
  obtain ⟨c4, hc4⟩ : ∃ c4, c3 ++ ⟨#[32]⟩ = c4 := ⟨_, rfl⟩
  have s4 : c4.size = c3.size + 1 := by rw [← hc4, ByteArray.size_append, z6]
  have A4 : ∀ w : World, (Op.stringOp .add c3 ⟨#[32]⟩).run Tryz.prog w = .ok (.string c4) w := fun w => by rw [← hc4]; exact run_string_add_sum w _ _ (by omega)
  obtain ⟨c5, hc5⟩ : ∃ c5, c4 ++ dec H = c5 := ⟨_, rfl⟩
  have s5 : c5.size = c4.size + (dec H).size := by rw [← hc5, ByteArray.size_append]
  have A5 : ∀ w : World, (Op.stringOp .add c4 (dec H)).run Tryz.prog w = .ok (.string c5) w := fun w => by rw [← hc5]; exact run_string_add_sum w _ _ (by omega)
  obtain ⟨c6, hc6⟩ : ∃ c6, c5 ++ ⟨#[10]⟩ = c6 := ⟨_, rfl⟩
  have s6 : c6.size = c5.size + 1 := by rw [← hc6, ByteArray.size_append, z5]
  have A6 : ∀ w : World, (Op.stringOp .add c5 ⟨#[10]⟩).run Tryz.prog w = .ok (.string c6) w := fun w => by rw [← hc6]; exact run_string_add_sum w _ _ (by omega)
  have hc6s : c6.size ≤ 1000000 := by omega
  have hc6l : c6.data.toList = hdrA K W H := by rw [← hc6, ← hc5, ← hc4, ← hc3, ← hc2, ← hc1]; exact hdr_text (by omega)
  have HC6 := Lib.hid hc6l
  generalize dec K = dK at A1 s1 HIT1
  generalize dec W = dW at A3 s3 HIT2
  generalize dec H = dH at A5 s5 HIT3
  have hc6l := HC6.out
  clear hr hl hnc hb hc1 hc2 hc3 hc4 hc5 hc6 s1 s2 s3 s4 s5 s6 z1 z2 z3 z4 z5 z6 hc6l hK hm
  go_enter Tryz.func15, Tryz.ntmps15
  have HI1 := Lib.hid W1
  obtain ⟨i0, i1, i2, z0, z1, z2, il⟩ := IB.all W1.I
  clear i2 z0 z1 z2 il W1
  go_upto_region 1 with fail
  refine wp_region_held_drew (S := fun wx => wx.cell? ⟨w.heap.size, 0, none⟩ = some (.int .i64 (W : Int)) ∧ wx.cell? ⟨w.heap.size, 1, none⟩ = some (.int .i64 (H : Int))) (by kernel_rfl) ⟨i0, i1⟩ (fun hHeld => ?_)
  refine wpAnyH_take (i := 0) (v := ?_) rfl (by kernel_rfl) (by kernel_rfl) (by kernel_rfl) (fun _ _ _ h => h) (Or.inl ⟨by kernel_rfl, ?_⟩) (by assumption) ?_
  rotate_left
  · intro w hSw; obtain ⟨s0, s1⟩ := hSw; go_simp; (try with_reducible rfl)
  (try simp only [Act.put, List.getElem_toArray, List.getElem_cons_succ, List.getElem_cons_zero, List.setIfInBounds_toArray, List.set_cons_zero, List.set_cons_succ])
  refine wpAnyH_take (i := 4) (v := ?_) rfl (by kernel_rfl) (by kernel_rfl) (by kernel_rfl) (fun _ _ _ h => h) (Or.inl ⟨by kernel_rfl, ?_⟩) (by assumption) ?_
  rotate_left
  · intro w hSw; obtain ⟨s0, s1⟩ := hSw; go_simp; (try with_reducible rfl)
  (try simp only [Act.put, List.getElem_toArray, List.getElem_cons_succ, List.getElem_cons_zero, List.setIfInBounds_toArray, List.set_cons_zero, List.set_cons_succ])
  refine wpAnyH_take (i := 5) (v := ?_) rfl (by kernel_rfl) (by kernel_rfl) (by kernel_rfl) (fun _ _ _ h => h) (Or.inl ⟨by kernel_rfl, ?_⟩) (by assumption) ?_
  rotate_left
  · intro w hSw; obtain ⟨s0, s1⟩ := hSw; go_simp; (try with_reducible rfl)
  (try simp only [Act.put, List.getElem_toArray, List.getElem_cons_succ, List.getElem_cons_zero, List.setIfInBounds_toArray, List.set_cons_zero, List.set_cons_succ])
  refine wpAnyH_take (i := 9) (v := ?_) rfl (by kernel_rfl) (by kernel_rfl) (by kernel_rfl) (fun _ _ _ h => h) (Or.inl ⟨by kernel_rfl, ?_⟩) (by assumption) ?_
  rotate_left
  · intro w hSw; obtain ⟨s0, s1⟩ := hSw; go_simp; (try with_reducible rfl)
  (try simp only [Act.put, List.getElem_toArray, List.getElem_cons_succ, List.getElem_cons_zero, List.setIfInBounds_toArray, List.set_cons_zero, List.set_cons_succ])
  refine wpAnyH_take (i := 10) (v := ?_) rfl (by kernel_rfl) (by kernel_rfl) (by kernel_rfl) (fun _ _ _ h => h) (Or.inl ⟨by kernel_rfl, ?_⟩) (by assumption) ?_
  rotate_left
  · intro w hSw; obtain ⟨s0, s1⟩ := hSw; go_simp; (try with_reducible rfl)
  (try simp only [Act.put, List.getElem_toArray, List.getElem_cons_succ, List.getElem_cons_zero, List.setIfInBounds_toArray, List.set_cons_zero, List.set_cons_succ])
  refine wpAnyH_ready (rs := [1]) (by kernel_rfl) (by simp) ?_
  refine AllReadyH.cons rfl (fun K hK => ?_) AllReadyH.nil
  go_simp
  refine (HIT1.out _).mono ?_
  rintro e w'0 ⟨rfl, b0⟩
  have J0 := (HI1.out.drew).below b0
  refine hK.out _ _ (⟨Blk.cell J0.I 0, Blk.cell J0.I 1⟩) (fun hHeld' => ?_)
  clear hK K hHeld
  have hHeld := hHeld'
  clear hHeld'
  (try simp only [Act.put, List.getElem_toArray, List.getElem_cons_succ, List.getElem_cons_zero, List.setIfInBounds_toArray, List.set_cons_zero, List.set_cons_succ])
  refine wpAnyH_take (i := 2) (v := ?_) rfl (by kernel_rfl) (by kernel_rfl) (by kernel_rfl) (fun _ _ _ h => h) (Or.inl ⟨by kernel_rfl, ?_⟩) (by assumption) ?_
  rotate_left
  · intro w hSw; obtain ⟨s0, s1⟩ := hSw; go_simp; (try with_reducible rfl)
  (try simp only [Act.put, List.getElem_toArray, List.getElem_cons_succ, List.getElem_cons_zero, List.setIfInBounds_toArray, List.set_cons_zero, List.set_cons_succ])
  refine wpAnyH_take (i := 3) (v := ?_) rfl (by kernel_rfl) (by kernel_rfl) (by kernel_rfl) (fun _ _ _ h => h) (Or.inl ⟨by kernel_rfl, ?_⟩) (by assumption) ?_
  rotate_left
  · intro w hSw; obtain ⟨s0, s1⟩ := hSw; go_simp; (try with_reducible rfl)
  (try simp only [Act.put, List.getElem_toArray, List.getElem_cons_succ, List.getElem_cons_zero, List.setIfInBounds_toArray, List.set_cons_zero, List.set_cons_succ])
  refine wpAnyH_ready (rs := [6]) (by kernel_rfl) (by simp) ?_
  refine AllReadyH.cons rfl (fun K hK => ?_) AllReadyH.nil
  go_simp
  refine (HIT2.out _).mono ?_
  rintro e w'1 ⟨rfl, b1⟩
  have J1 := (J0).below b1
  refine hK.out _ _ (⟨Blk.cell J1.I 0, Blk.cell J1.I 1⟩) (fun hHeld' => ?_)
  clear hK K hHeld
  have hHeld := hHeld'
  clear hHeld'
  (try simp only [Act.put, List.getElem_toArray, List.getElem_cons_succ, List.getElem_cons_zero, List.setIfInBounds_toArray, List.set_cons_zero, List.set_cons_succ])
  refine wpAnyH_take (i := 7) (v := ?_) rfl (by kernel_rfl) (by kernel_rfl) (by kernel_rfl) (fun _ _ _ h => h) (Or.inl ⟨by kernel_rfl, ?_⟩) (by assumption) ?_
  rotate_left
  · intro w hSw; obtain ⟨s0, s1⟩ := hSw; go_simp; (try with_reducible rfl)
  (try simp only [Act.put, List.getElem_toArray, List.getElem_cons_succ, List.getElem_cons_zero, List.setIfInBounds_toArray, List.set_cons_zero, List.set_cons_succ])
  refine wpAnyH_take (i := 8) (v := ?_) rfl (by kernel_rfl) (by kernel_rfl) (by kernel_rfl) (fun _ _ _ h => h) (Or.inl ⟨by kernel_rfl, ?_⟩) (by assumption) ?_
  rotate_left
  · intro w hSw; obtain ⟨s0, s1⟩ := hSw; go_simp; (try with_reducible rfl)
  (try simp only [Act.put, List.getElem_toArray, List.getElem_cons_succ, List.getElem_cons_zero, List.setIfInBounds_toArray, List.set_cons_zero, List.set_cons_succ])
  refine wpAnyH_ready (rs := [11]) (by kernel_rfl) (by simp) ?_
  refine AllReadyH.cons rfl (fun K hK => ?_) AllReadyH.nil
  go_simp
  refine (HIT3.out _).mono ?_
  rintro e w'2 ⟨rfl, b2⟩
  have J2 := (J1).below b2
  refine hK.out _ _ (⟨Blk.cell J2.I 0, Blk.cell J2.I 1⟩) (fun hHeld' => ?_)
  clear hK K hHeld
  have hHeld := hHeld'
  clear hHeld'
  (try simp only [Act.put, List.getElem_toArray, List.getElem_cons_succ, List.getElem_cons_zero, List.setIfInBounds_toArray, List.set_cons_zero, List.set_cons_succ])
  refine wpAnyH_take (i := 12) (v := ?_) rfl (by kernel_rfl) (by kernel_rfl) (by kernel_rfl) (fun _ _ _ h => h) (Or.inl ⟨by kernel_rfl, ?_⟩) (by assumption) ?_
  rotate_left
  · intro w hSw; obtain ⟨s0, s1⟩ := hSw; go_simp; (try with_reducible rfl)
  (try simp only [Act.put, List.getElem_toArray, List.getElem_cons_succ, List.getElem_cons_zero, List.setIfInBounds_toArray, List.set_cons_zero, List.set_cons_succ])
  refine wpAnyH_take (i := 13) (v := ?_) rfl (by kernel_rfl) (by kernel_rfl) (by kernel_rfl) (fun _ _ _ h => h) (Or.inl ⟨by kernel_rfl, ?_⟩) (by assumption) ?_
  rotate_left
  · intro w hSw; obtain ⟨s0, s1⟩ := hSw; go_simp; (try with_reducible rfl)
  (try simp only [Act.put, List.getElem_toArray, List.getElem_cons_succ, List.getElem_cons_zero, List.setIfInBounds_toArray, List.set_cons_zero, List.set_cons_succ])
  refine wpAnyH_ready (rs := [14]) (by kernel_rfl) (by simp) ?_
  refine AllReadyH.cons rfl (fun K hK => ?_) AllReadyH.nil
  refine step_bytes rfl _ rfl c6 rfl hc6s ?_
  intro v5 w5 o5 b5
  have J5 := J2.below b5
  refine hK.out _ _ (⟨Blk.cell J5.I 0, Blk.cell J5.I 1⟩) (fun hHeld' => ?_)
  clear hK K hHeld
  have hHeld := hHeld'
  clear hHeld'
  (try simp only [Act.put, List.getElem_toArray, List.getElem_cons_succ, List.getElem_cons_zero, List.setIfInBounds_toArray, List.set_cons_zero, List.set_cons_succ])
  refine wpAnyH_take (i := 15) (v := ?_) rfl (by kernel_rfl) (by kernel_rfl) (by kernel_rfl) (fun _ _ _ h => h) (Or.inl ⟨by kernel_rfl, ?_⟩) (by assumption) ?_
  rotate_left
  · intro w hSw; obtain ⟨s0, s1⟩ := hSw; go_simp; (try with_reducible rfl)
  (try simp only [Act.put, List.getElem_toArray, List.getElem_cons_succ, List.getElem_cons_zero, List.setIfInBounds_toArray, List.set_cons_zero, List.set_cons_succ])
  refine wpAnyH_done (by kernel_rfl) ?_ _
  (try simp only [List.getElem_toArray, List.getElem_cons_succ, List.getElem_cons_zero, List.set_cons_zero, List.set_cons_succ])
  clear hHeld
  obtain ⟨B0, hB0⟩ : ∃ B0, w'2.heap.size = B0 := ⟨_, rfl⟩
  rw [hB0] at o5
  clear i0 i1
  have i0 : w5.cell? ⟨w.heap.size, 0, none⟩ = some (.int .i64 (W : Int)) := Blk.cell J5.I 0
  have i1 : w5.cell? ⟨w.heap.size, 1, none⟩ = some (.int .i64 (H : Int)) := Blk.cell J5.I 1
  have hl5 : (c6.data.toList).length + 4 < 1099511627776 := by
    have : c6.data.toList.length = c6.size := by rw [Array.length_toList]; rfl
    omega
  have hB0w : w.heap.size < B0 := by rw [← hB0]; exact Blk.lt J2.I
  have hR5 : RwI w w5 W H n c a B0 v5 c6.data.toList := ⟨o5, J5.I, J5.B⟩
  have hbs5 : B0 ≤ (w5.alloc (.cells #[.int .u8 50, .int .u8 53, .int .u8 53, .int .u8 10] 5)).heap.size := (hR5.alloc _).hs
  go_upto_region 4 with (at_builtin; refine wpList_append_sliceM rfl (.tmp 28) (.tmp 29) rfl B0 _ _ rfl (hR5.alloc _).O _ 4 4 [50, 53, 53, 10] rfl rfl (cellsW_new rfl) hl5 hbs5 ?_; intro v6 w6 o6 b6)
  have HR0 : Hid (RwI w w6 W H n c a B0 v6 (hdrL K W H ++ encRows K ((rowsOf l W H).take 0))) := Lib.hid (by
    rw [List.take_zero, show encRows K [] = [] from rfl, List.append_nil, ← hdrA_more W H (by have := HK14.out; omega), ← HC6.out]
    exact (hR5.alloc _).next hB0w o6 b6)
  have HBW := Lib.hid hB0w
  have HKL : Hid (K = 5 ∨ K = 6) := Lib.hid (by have := HK14.out; omega)
  clear o5 b5 J5 hR5 J0 J1 J2 b0 b1 b2 HI1 HIT1 HIT2 HIT3 hB0 A1 A2 A3 A4 A5 A6 hc6s hc6l HC6 o6 b6 hl5 hbs5 hB0w
  go_upto_region 5 with fail
  (try clear i0 i1 i2 z0 z1 z2 il)
  go_loopg [5, 6, 7, 8, 9, 10] H (fun gh v5 v6 v7 v8 v9 v10 wr => ∃ y : Nat, y + gh = H ∧ v6 = .int .i64 (y : Int) ∧ Hid (RwI w wr W H n c a B0 v5 (hdrL K W H ++ encRows K ((rowsOf l W H).take y))))
  case atStart => exact ⟨0, by omega, rfl, HR0⟩
  case round =>
    clear HR0
    obtain ⟨y, hy, rfl, HR⟩ := hrel
    obtain ⟨i0, i1, i2, z0, z1, z2, il⟩ := IB.all HR.out.I
    by_cases hyH : y < H
    · have hyI : (y : Int) < (H : Int) := by omega
      obtain ⟨m, rfl⟩ : ∃ m, gk = m + 1 := ⟨gk - 1, by omega⟩
      go_upto_region 9 with fail
      clear i0 i1 i2 z0 z1 z2 il
      have HR1 : Hid (RwI w wr W H n c a B0 u5 (hdrL K W H ++ encRows K ((rowsOf l W H).take y) ++ pxs K (rowOf l W y) 0)) := Lib.hid (by rw [pxs_zero, List.append_nil]; exact HR.out)
      obtain ⟨wo, hwo⟩ : ∃ wo, wo = wr := ⟨_, rfl⟩
      subst hwo
      go_loopg [5, 7, 8, 9, 10] W (fun gx v5 v7 v8 v9 v10 wx => ∃ x : Nat, x + gx = W ∧ v9 = .int .i64 (x : Int) ∧ v7 = .int .i64 0 ∧ v8 = .int .i64 0 ∧ Hid (RwI w wx W H n c a B0 v5 (hdrL K W H ++ encRows K ((rowsOf l W H).take y) ++ pxs K (rowOf l W y) x)))
      case atStart => exact ⟨0, by omega, rfl, rfl, rfl, HR1⟩
      case round =>
        clear HR1 HR
        obtain ⟨x, hx, rfl, rfl, rfl, HR2⟩ := hrel
        obtain ⟨i0, i1, i2, z0, z1, z2, il⟩ := IB.all HR2.out.I
        by_cases hxW : x < W
        · have hxI : (x : Int) < (W : Int) := by omega
          obtain ⟨g', rfl⟩ : ∃ g', gk = g' + 1 := ⟨gk - 1, by omega⟩
          have HPX := Lib.hid (HP.out x y hxW hyH _ (HBY.out.below HR2.out.B))
          obtain ⟨q, hq⟩ : ∃ q, pcAt l (y * W + x) = q := ⟨_, rfl⟩
          have hrow := row_at (l := l) (W := W) (y := y) hxW
          rw [hq] at HPX hrow
          unfold Qc.v at HPX
          have HQ := Lib.hid hq
          have HRO := Lib.hid hrow
          clear hq hrow
          go_upto_region 12 with (go_at_call 30; refine HPX.out.mono ?_; rintro e w7 ⟨rfl, b7⟩; have HR7 := Lib.hid ((HR2.out.below b7).alloc (.cells #[.int .u8 (q.r.toNat : Int), .int .u8 (q.g.toNat : Int), .int .u8 (q.b.toNat : Int), .int .u8 (q.a.toNat : Int)] 48)); have C7 : CB (w7.alloc (.cells #[.int .u8 (q.r.toNat : Int), .int .u8 (q.g.toNat : Int), .int .u8 (q.b.toNat : Int), .int .u8 (q.a.toNat : Int)] 48)) w7.heap.size (q.r.toNat : Int) (q.g.toNat : Int) (q.b.toNat : Int) (q.a.toNat : Int) := Blk.new _ _ _; clear i0 i1 i2 z0 z1 z2 il)
          clear HR2 HPX b7
          generalize w7.alloc (.cells #[.int .u8 (q.r.toNat : Int), .int .u8 (q.g.toNat : Int), .int .u8 (q.b.toNat : Int), .int .u8 (q.a.toNat : Int)] 48) = w8 at HR7 C7 ⊢
          generalize w7.heap.size = qc at C7 ⊢
          have c0 := C7.c0
          have c1 := C7.c1
          have c2 := C7.c2
          have hbs := HR7.out.hs
          have hlen : (hdrL K W H ++ encRows K ((rowsOf l W H).take y) ++ pxs K (rowOf l W y) x).length + 3 < 1099511627776 := by
            have h1 := enc_small2 (l := l) (y := y) HK3.out hWb hHb
            have h2 := pxs_len K (rowOf l W y) x
            rw [List.length_append]
            omega
          have HE := Lib.hid (show pxs K (rowOf l W y) (x + 1) = pxs K (rowOf l W y) x ++ [q.r, q.g, q.b] by rw [pxs_more HRO.out]; rcases HK14.out with h; subst h; rfl)
          have hbs2 : B0 ≤ (w8.alloc (.cells #[.int .u8 (q.r.toNat : Int), .int .u8 (q.g.toNat : Int), .int .u8 (q.b.toNat : Int)] 5)).heap.size := (HR7.out.alloc _).hs
          go_upto_region 16 with (at_builtin; refine wpList_append_sliceM rfl (.tmp 56) (.tmp 63) rfl B0 _ _ rfl (HR7.out.alloc _).O _ 3 3 [q.r, q.g, q.b] rfl rfl (cellsW_new rfl) hlen hbs2 ?_; intro v9 w9 o9 b9)
          have HR9 : Hid (RwI w w9 W H n c a B0 v9 (hdrL K W H ++ encRows K ((rowsOf l W H).take y) ++ pxs K (rowOf l W y) (x + 1))) := Lib.hid (by rw [HE.out, ← List.append_assoc]; exact (HR7.out.alloc _).next HBW.out o9 b9)
          clear o9 b9 C7 HR7 c0 c1 c2 hbs hlen hbs2
          go_wp2_with fail
          go_roundg g'
          case measure => omega
          case rel => exact ⟨x + 1, by omega, by go_num, rfl, rfl, HR9⟩
        · obtain rfl : x = W := by omega
          obtain rfl : gk = 0 := by omega
          have hxI : ¬ (x : Int) < (x : Int) := by omega
          have HR3 : Hid (RwI w wr x H n c a B0 u5 (hdrL K x H ++ encRows K ((rowsOf l x H).take (y + 1)))) := Lib.hid (by
            rw [rows_next hyH, ← pxs_end (rowOf_len l x y) HKL.out, ← List.append_assoc]
            exact HR2.out)
          clear HR2
          go_wp2_with fail
          go_roundg m
          case measure => omega
          case rel => exact ⟨y + 1, by omega, by go_num, HR3⟩
    · obtain rfl : y = H := by omega
      obtain rfl : gk = 0 := by omega
      have hyI : ¬ (y : Int) < (y : Int) := by omega
      have hO := HR.out.O
      rw [List.take_of_length_le (show (rowsOf l W y).length ≤ y by unfold rowsOf; simp)] at hO
      have HO := Lib.hid hO
      clear hO
      go_wp2_with (refine wpList_convert_M rfl (.tmp 95) 9 Tryz.underlying9 rfl _ _ _ rfl HO.out ?_)
      go_ret
      exact ⟨HR.out.B, rfl⟩
end Go.Proofs.YthljhebbblhakaaGreatDoor
