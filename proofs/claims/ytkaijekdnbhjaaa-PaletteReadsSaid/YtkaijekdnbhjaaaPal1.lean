/- A palette's Add, Of, Free. -/
import Derived.Test.YtkaijekdnbhjaaaPalNew
import Derived.Test.YtkaijekdnbhjaaaBufOps
import Derived.Test.YtkaijekdnbhjaaaRas3
import Derived.Deep.RegionHeld3
namespace Go.Proofs.Ytkaijekdnbhjaaa
open Go.RowKit
set_option linter.unusedVariables false
set_option linter.unusedSimpArgs false

section
variable {w : World} {p b g d : Nat} {l : List UInt8}
theorem PalAt.b_ {n m : Int} (h : PalAt w p b n m) : w.cell? ⟨p, 0, none⟩ = some (.pointer (some ⟨b, 0, none⟩)) := Blk.cell h 0
theorem PalAt.n_ {n m : Int} (h : PalAt w p b n m) : w.cell? ⟨p, 1, none⟩ = some (.int .i64 n) := Blk.cell h 1
theorem PalAt.m_ {n m : Int} (h : PalAt w p b n m) : w.cell? ⟨p, 2, none⟩ = some (.int .i64 m) := Blk.cell h 2
set_option maxRecDepth 100000 in
set_option maxHeartbeats 1000000 in
theorem palAdd_yes {n m : Nat} (h : PalAt w p b (n : Int) (m : Int)) (hm : BufAt w b g d l) (hn : n < m) (hm2 : m ≤ 65536) (hl : 4 * n + 4 ≤ l.length) (hs : l.length ≤ 1099511627776) (c0 c1 c2 c3 : UInt8) :
    Calls Try.prog 13 #[.pointer (some ⟨p, 0, none⟩), .agg #[.int .u8 (c0.toNat : Int), .int .u8 (c1.toNat : Int), .int .u8 (c2.toNat : Int), .int .u8 (c3.toNat : Int)]] w fun e w' => e = .returned (.bool true) ∧ PalAt w' p b ((n + 1 : Nat) : Int) (m : Int) ∧ BufAt w' b g d (over l (4 * n) [c0, c1, c2, c3]) ∧ Turn [p, d] w w' := by
  have X0 : CB (w.alloc (.cells #[.int .u8 (c0.toNat : Int), .int .u8 (c1.toNat : Int), .int .u8 (c2.toNat : Int), .int .u8 (c3.toNat : Int)] 34)) w.heap.size (c0.toNat : Int) (c1.toNat : Int) (c2.toNat : Int) (c3.toNat : Int) := Blk.new _ _ _
  have P0 : PalAt (w.alloc (.cells #[.int .u8 (c0.toNat : Int), .int .u8 (c1.toNat : Int), .int .u8 (c2.toNat : Int), .int .u8 (c3.toNat : Int)] 34)) p b (n : Int) (m : Int) := Blk.alloc h _
  have M0 : BufAt (w.alloc (.cells #[.int .u8 (c0.toNat : Int), .int .u8 (c1.toNat : Int), .int .u8 (c2.toNat : Int), .int .u8 (c3.toNat : Int)] 34)) b g d l := ⟨hm.blk.alloc _, hm.row.alloc _⟩
  have T0 : Turn [p, d] w (w.alloc (.cells #[.int .u8 (c0.toNat : Int), .int .u8 (c1.toNat : Int), .int .u8 (c2.toNat : Int), .int .u8 (c3.toNat : Int)] 34)) := (Turn.refl _ _).alloc _
  have hpd : p ≠ d := Blk.ne_ h hm.row (by decide)
  have hpw := Blk.lt h
  have n1 := P0.n_
  have n2 := P0.m_
  have hni : ¬ (m : Int) ≤ (n : Int) := by omega
  have hxx : ((n : Nat) : Int) < (m : Int) := by omega
  have HLL := Lib.hid hl
  clear h hm hl
  go_enter Try.func13, Try.ntmps13
  go_wp2_with fail
  go_quiet (fail)
  go_wp2_with fail
  have X1 : CB ((w.alloc (.cells #[.int .u8 (c0.toNat : Int), .int .u8 (c1.toNat : Int), .int .u8 (c2.toNat : Int), .int .u8 (c3.toNat : Int)] 34)).drewN nq) w.heap.size (c0.toNat : Int) (c1.toNat : Int) (c2.toNat : Int) (c3.toNat : Int) := Blk.drewN X0 nq
  have P1 : PalAt ((w.alloc (.cells #[.int .u8 (c0.toNat : Int), .int .u8 (c1.toNat : Int), .int .u8 (c2.toNat : Int), .int .u8 (c3.toNat : Int)] 34)).drewN nq) p b (n : Int) (m : Int) := Blk.drewN P0 nq
  have M1 : BufAt ((w.alloc (.cells #[.int .u8 (c0.toNat : Int), .int .u8 (c1.toNat : Int), .int .u8 (c2.toNat : Int), .int .u8 (c3.toNat : Int)] 34)).drewN nq) b g d l := ⟨M0.blk.drewN nq, M0.row.drewN nq⟩
  have T1 : Turn [p, d] w ((w.alloc (.cells #[.int .u8 (c0.toNat : Int), .int .u8 (c1.toNat : Int), .int .u8 (c2.toNat : Int), .int .u8 (c3.toNat : Int)] 34)).drewN nq) := T0.drewN nq
  generalize ((w.alloc (.cells #[.int .u8 (c0.toNat : Int), .int .u8 (c1.toNat : Int), .int .u8 (c2.toNat : Int), .int .u8 (c3.toNat : Int)] 34)).drewN nq) = wx at X1 P1 M1 T1 ⊢
  clear X0 P0 M0 T0 n1 n2
  have hpx := Blk.lt P1
  have hxx2 := Blk.lt X1
  have nzp : p ≠ wx.heap.size := Nat.ne_of_lt hpx
  have nzx : w.heap.size ≠ wx.heap.size := Nat.ne_of_lt hxx2
  have q0 := P1.b_
  have q1 := P1.n_
  have x0 := X1.c0
  have x1 := X1.c1
  have x2 := X1.c2
  have x3 := X1.c3
  have kp0 : ∀ ob, (wx.alloc ob).cell? ⟨p, 0, none⟩ = some (.pointer (some ⟨b, 0, none⟩)) := fun ob => (World.cell?_of_block (Below.heap_alloc wx ob p hpx)).trans q0
  have kp1 : ∀ ob, (wx.alloc ob).cell? ⟨p, 1, none⟩ = some (.int .i64 (n : Int)) := fun ob => (World.cell?_of_block (Below.heap_alloc wx ob p hpx)).trans q1
  have hcv : (convert 54 9 (.slice (some ⟨wx.heap.size, 0, none⟩) 4 4)).run Try.prog (wx.alloc (.cells #[.int .u8 (c0.toNat : Int), .int .u8 (c1.toNat : Int), .int .u8 (c2.toNat : Int), .int .u8 (c3.toNat : Int)] 5)).drew = .ok (.string (strOf [c0, c1, c2, c3])) (wx.alloc (.cells #[.int .u8 (c0.toNat : Int), .int .u8 (c1.toNat : Int), .int .u8 (c2.toNat : Int), .int .u8 (c3.toNat : Int)] 5)).drew :=
    run_convert_bytes_back (P := Try.prog) _ 54 9 5 ⟨wx.heap.size, 0, none⟩ 4 [c0, c1, c2, c3] Try.underlying54 Try.underlying5 Try.underlying9 (fun j hj => by
      have h4 : j < 4 := hj
      rw [show (⟨wx.heap.size, 0, none⟩ : Addr).add j = ⟨wx.heap.size, j, none⟩ by unfold Addr.add; split <;> simp_all]
      refine (cell_new wx _ _ j _ rfl).trans ?_
      match j, h4 with
      | 0, _ => rfl
      | 1, _ => rfl
      | 2, _ => rfl
      | 3, _ => rfl)
  obtain ⟨s, hs4⟩ : ∃ s, s = strOf [c0, c1, c2, c3] := ⟨_, rfl⟩
  have hss : s.size = 4 := by rw [hs4]; rfl
  have hsl : s.data.toList = [c0, c1, c2, c3] := by rw [hs4]; rfl
  rw [← hs4] at hcv
  have HP0 := bufPut_yes (i := 4 * n) s (⟨(M1.blk.alloc (.cells #[.int .u8 (c0.toNat : Int), .int .u8 (c1.toNat : Int), .int .u8 (c2.toNat : Int), .int .u8 (c3.toNat : Int)] 5)).drew, (M1.row.alloc (.cells #[.int .u8 (c0.toNat : Int), .int .u8 (c1.toNat : Int), .int .u8 (c2.toNat : Int), .int .u8 (c3.toNat : Int)] 5)).drew⟩ : BufAt (wx.alloc (.cells #[.int .u8 (c0.toNat : Int), .int .u8 (c1.toNat : Int), .int .u8 (c2.toNat : Int), .int .u8 (c3.toNat : Int)] 5)).drew b g d l) (by rw [hss]; exact HLL.out) hs
  rw [show ((4 * n : Nat) : Int) = IntKind.i64.wrap (4 * (n : Int)) by (rw [IntWalk.i64_in _ (by omega)]; omega), hsl] at HP0
  have HP := Lib.hid HP0
  have HT := Lib.hid ((T1.alloc (.cells #[.int .u8 (c0.toNat : Int), .int .u8 (c1.toNat : Int), .int .u8 (c2.toNat : Int), .int .u8 (c3.toNat : Int)] 5)).drew)
  have HPA := Lib.hid ((Blk.drew (Blk.alloc P1 (.cells #[.int .u8 (c0.toNat : Int), .int .u8 (c1.toNat : Int), .int .u8 (c2.toNat : Int), .int .u8 (c3.toNat : Int)] 5)) : PalAt (wx.alloc (.cells #[.int .u8 (c0.toNat : Int), .int .u8 (c1.toNat : Int), .int .u8 (c2.toNat : Int), .int .u8 (c3.toNat : Int)] 5)).drew p b (n : Int) (m : Int)))
  have HM : Hid (BufAt wx b g d l) := Lib.hid M1
  have hxd : w.heap.size ≠ d := Blk.ne_ X1 M1.row (by decide)
  have HXA := Lib.hid ((Blk.drew (Blk.alloc X1 (.cells #[.int .u8 (c0.toNat : Int), .int .u8 (c1.toNat : Int), .int .u8 (c2.toNat : Int), .int .u8 (c3.toNat : Int)] 5)) : CB (wx.alloc (.cells #[.int .u8 (c0.toNat : Int), .int .u8 (c1.toNat : Int), .int .u8 (c2.toNat : Int), .int .u8 (c3.toNat : Int)] 5)).drew w.heap.size (c0.toNat : Int) (c1.toNat : Int) (c2.toNat : Int) (c3.toNat : Int)))
  clear hs4 HP0 X1 P1 M1 T1 hss hsl
  have kx0 : ∀ ob, (wx.alloc ob).cell? ⟨w.heap.size, 0, none⟩ = some (.int .u8 (c0.toNat : Int)) := fun ob => (World.cell?_of_block (Below.heap_alloc wx ob w.heap.size hxx2)).trans x0
  have kx1 : ∀ ob, (wx.alloc ob).cell? ⟨w.heap.size, 1, none⟩ = some (.int .u8 (c1.toNat : Int)) := fun ob => (World.cell?_of_block (Below.heap_alloc wx ob w.heap.size hxx2)).trans x1
  have kx2 : ∀ ob, (wx.alloc ob).cell? ⟨w.heap.size, 2, none⟩ = some (.int .u8 (c2.toNat : Int)) := fun ob => (World.cell?_of_block (Below.heap_alloc wx ob w.heap.size hxx2)).trans x2
  have kx3 : ∀ ob, (wx.alloc ob).cell? ⟨w.heap.size, 3, none⟩ = some (.int .u8 (c3.toNat : Int)) := fun ob => (World.cell?_of_block (Below.heap_alloc wx ob w.heap.size hxx2)).trans x3
  refine wp_region_held_drew (S := (fun w' => w'.cell? ⟨p, 0, none⟩ = some (.pointer (some ⟨b, 0, none⟩)) ∧ w'.cell? ⟨p, 1, none⟩ = some (.int .i64 (n : Int)) ∧ w'.cell? ⟨w.heap.size, 0, none⟩ = some (.int .u8 (c0.toNat : Int)) ∧ w'.cell? ⟨w.heap.size, 1, none⟩ = some (.int .u8 (c1.toNat : Int)) ∧ w'.cell? ⟨w.heap.size, 2, none⟩ = some (.int .u8 (c2.toNat : Int)) ∧ w'.cell? ⟨w.heap.size, 3, none⟩ = some (.int .u8 (c3.toNat : Int)))) (by kernel_rfl) ⟨q0, q1, x0, x1, x2, x3⟩ (fun hHeld => ?_)
  refine wpAnyH_take (i := 0) (v := ?_) rfl (by kernel_rfl) (by kernel_rfl) (by kernel_rfl) (fun _ _ _ h => h) (Or.inl ⟨by rfl, ?_⟩) (by assumption) ?_
  rotate_left
  · intro w hSw; (try dsimp only at hSw); go_simp; (try with_reducible rfl)
  (try simp only [Act.put, List.setIfInBounds_toArray, List.set_cons_zero, List.set_cons_succ])
  refine wpAnyH_take (i := 1) (v := ?_) rfl (by kernel_rfl) (by kernel_rfl) (by kernel_rfl) (fun _ _ _ h => h) (Or.inl ⟨by rfl, ?_⟩) (by assumption) ?_
  rotate_left
  · intro w hSw; (try dsimp only at hSw); go_simp; (try with_reducible rfl)
  (try simp only [Act.put, List.setIfInBounds_toArray, List.set_cons_zero, List.set_cons_succ])
  refine wpAnyH_take (i := 2) (v := ?_) rfl (by kernel_rfl) (by kernel_rfl) (by kernel_rfl) (fun _ _ _ h => h) (Or.inl ⟨by rfl, ?_⟩) (by assumption) ?_
  rotate_left
  · intro w hSw; (try dsimp only at hSw); go_simp; (try with_reducible rfl)
  (try simp only [Act.put, List.setIfInBounds_toArray, List.set_cons_zero, List.set_cons_succ])
  refine wpAnyH_take (i := 3) (v := ?_) rfl (by kernel_rfl) (by kernel_rfl) (by kernel_rfl) (fun _ _ _ h => h) (Or.inl ⟨by rfl, ?_⟩) (by assumption) ?_
  rotate_left
  · intro w hSw; (try dsimp only at hSw); go_simp; (try with_reducible rfl)
  (try simp only [Act.put, List.setIfInBounds_toArray, List.set_cons_zero, List.set_cons_succ])
  refine wpAnyH_take (i := 4) (v := ?_) rfl (by kernel_rfl) (by kernel_rfl) (by kernel_rfl) (fun _ _ _ h => h) (Or.inl ⟨by rfl, ?_⟩) (by assumption) ?_
  rotate_left
  · intro w hSw; (try dsimp only at hSw); go_simp; (try with_reducible rfl)
  (try simp only [Act.put, List.setIfInBounds_toArray, List.set_cons_zero, List.set_cons_succ])
  refine wpAnyH_take (i := 5) (v := ?_) rfl (by kernel_rfl) (by kernel_rfl) (by kernel_rfl) (fun _ _ _ h => h) (Or.inl ⟨by rfl, ?_⟩) (by assumption) ?_
  rotate_left
  · intro w hSw; (try dsimp only at hSw); go_simp; (try with_reducible rfl)
  (try simp only [Act.put, List.setIfInBounds_toArray, List.set_cons_zero, List.set_cons_succ])
  refine wpAnyH_take (i := 6) (v := ?_) rfl (by kernel_rfl) (by kernel_rfl) (by kernel_rfl) (fun _ _ _ h => h) (Or.inl ⟨by rfl, ?_⟩) (by assumption) ?_
  rotate_left
  · intro w hSw; (try dsimp only at hSw); go_simp; (try with_reducible rfl)
  (try simp only [Act.put, List.setIfInBounds_toArray, List.set_cons_zero, List.set_cons_succ])
  refine wpAnyH_take (i := 7) (v := ?_) rfl (by kernel_rfl) (by kernel_rfl) (by kernel_rfl) (fun _ _ _ h => h) (Or.inl ⟨by rfl, ?_⟩) (by assumption) ?_
  rotate_left
  · intro w hSw; (try dsimp only at hSw); go_simp; (try with_reducible rfl)
  (try simp only [Act.put, List.setIfInBounds_toArray, List.set_cons_zero, List.set_cons_succ])
  refine wpAnyH_take (i := 8) (v := ?_) rfl (by kernel_rfl) (by kernel_rfl) (by kernel_rfl) (fun _ _ _ h => h) (Or.inl ⟨by rfl, ?_⟩) (by assumption) ?_
  rotate_left
  · intro w hSw; (try dsimp only at hSw); go_simp; (try with_reducible rfl)
  (try simp only [Act.put, List.setIfInBounds_toArray, List.set_cons_zero, List.set_cons_succ])
  refine wpAnyH_take (i := 9) (v := ?_) rfl (by kernel_rfl) (by kernel_rfl) (by kernel_rfl) (fun _ _ _ h => h) (Or.inl ⟨by rfl, ?_⟩) (by assumption) ?_
  rotate_left
  · intro w hSw; (try dsimp only at hSw); go_simp; (try with_reducible rfl)
  (try simp only [Act.put, List.setIfInBounds_toArray, List.set_cons_zero, List.set_cons_succ])
  refine wpAnyH_take (i := 10) (v := ?_) rfl (by kernel_rfl) (by kernel_rfl) (by kernel_rfl) (fun _ _ _ h => h) (Or.inl ⟨by rfl, ?_⟩) (by assumption) ?_
  rotate_left
  · intro w hSw; (try dsimp only at hSw); go_simp; (try with_reducible rfl)
  (try simp only [Act.put, List.setIfInBounds_toArray, List.set_cons_zero, List.set_cons_succ])
  refine wpAnyH_take (i := 11) (v := ?_) rfl (by kernel_rfl) (by kernel_rfl) (by kernel_rfl) (fun _ _ _ h => h) (Or.inl ⟨by rfl, ?_⟩) (by assumption) ?_
  rotate_left
  · intro w hSw; (try dsimp only at hSw); go_simp; (try with_reducible rfl)
  (try simp only [Act.put, List.setIfInBounds_toArray, List.set_cons_zero, List.set_cons_succ])
  refine wpAnyH_take (i := 12) (v := ?_) rfl (by kernel_rfl) (by kernel_rfl) (by kernel_rfl) (fun _ _ _ h => h) (Or.inl ⟨by rfl, ?_⟩) (by assumption) ?_
  rotate_left
  · intro w hSw; (try dsimp only at hSw); go_simp; (try with_reducible rfl)
  (try simp only [Act.put, List.setIfInBounds_toArray, List.set_cons_zero, List.set_cons_succ])
  refine wpAnyH_take (i := 13) (v := ?_) rfl (by kernel_rfl) (by kernel_rfl) (by kernel_rfl) (fun _ _ _ h => h) (Or.inl ⟨by rfl, ?_⟩) (by assumption) ?_
  rotate_left
  · intro w hSw; (try dsimp only at hSw); go_simp; (try with_reducible rfl)
  (try simp only [Act.put, List.setIfInBounds_toArray, List.set_cons_zero, List.set_cons_succ])
  refine wpAnyH_take (i := 14) (v := ?_) rfl (by kernel_rfl) (by kernel_rfl) (by kernel_rfl) (fun _ _ _ h => h) (Or.inl ⟨by rfl, ?_⟩) (by assumption) ?_
  rotate_left
  · intro w hSw; (try dsimp only at hSw); go_simp; (try with_reducible rfl)
  (try simp only [Act.put, List.setIfInBounds_toArray, List.set_cons_zero, List.set_cons_succ])
  refine wpAnyH_take (i := 15) (v := ?_) rfl (by kernel_rfl) (by kernel_rfl) (by kernel_rfl) (fun _ _ _ h => h) (Or.inl ⟨by rfl, ?_⟩) (by assumption) ?_
  rotate_left
  · intro w hSw; (try dsimp only at hSw); go_simp; (try with_reducible rfl)
  (try simp only [Act.put, List.setIfInBounds_toArray, List.set_cons_zero, List.set_cons_succ])
  refine wpAnyH_take (i := 16) (v := ?_) rfl (by kernel_rfl) (by kernel_rfl) (by kernel_rfl) (fun _ _ _ h => h) (Or.inl ⟨by rfl, ?_⟩) (by assumption) ?_
  rotate_left
  · intro w hSw; (try dsimp only at hSw); go_simp; (try with_reducible rfl)
  (try simp only [Act.put, List.setIfInBounds_toArray, List.set_cons_zero, List.set_cons_succ])
  refine wpAnyH_ready (rs := [17]) (by kernel_rfl) (by simp) ?_
  refine AllReadyH.cons rfl (fun K hK => ?_) AllReadyH.nil
  go_simp
  refine hK.out _ _ ⟨kp0 _, kp1 _, kx0 _, kx1 _, kx2 _, kx3 _⟩ (fun hHeld2 => ?_)
  clear hK K hHeld
  (try simp only [Act.put, List.setIfInBounds_toArray, List.set_cons_zero, List.set_cons_succ])
  refine wpAnyH_ready (rs := [18]) (by kernel_rfl) (by simp) ?_
  refine AllReadyH.cons rfl (fun K hK => ?_) AllReadyH.nil
  go_simp
  refine hK.out _ _ hHeld2 (fun hHeld3 => ?_)
  clear hK K hHeld2
  (try simp only [Act.put, List.setIfInBounds_toArray, List.set_cons_zero, List.set_cons_succ])
  refine wpAnyH_ready (rs := [19]) (by kernel_rfl) (by simp) ?_
  refine AllReadyH.cons rfl (fun K hK => ?_) AllReadyH.nil
  go_simp
  refine HP.out.mono ?_
  rintro e w2 ⟨rfl, m2, t2⟩
  have P2 : PalAt w2 p b (n : Int) (m : Int) := Blk.turn HPA.out t2 (by simpa using hpd)
  have X2 : CB w2 w.heap.size (c0.toNat : Int) (c1.toNat : Int) (c2.toNat : Int) (c3.toNat : Int) := Blk.turn HXA.out t2 (by simpa using hxd)
  have T2 := Lib.hid (HT.out.trans (t2.mono (S' := [p, d]) (by simp)))
  have M2 := Lib.hid m2
  refine hK.out _ _ ⟨P2.b_, P2.n_, X2.c0, X2.c1, X2.c2, X2.c3⟩ (fun _ => ?_)
  clear hK K hHeld3 m2 t2 HP HT HPA HXA hcv kp0 kp1 kx0 kx1 kx2 kx3 q0 q1 x0 x1 x2 x3 X2
  refine wpAnyH_done (by kernel_rfl) ?_ _
  have k1 := P2.n_
  have k1z := Blk.frozen P2 1
  have hb1 : (n : Int) + 1 ≤ 65536 := by omega
  go_wp2_with fail
  go_ret
  have e1 : ((n + 1 : Nat) : Int) = (n : Int) + 1 := by omega
  exact ⟨rfl, by rw [e1]; exact (Blk.set_ P2 1 _).eq_ rfl, ⟨Blk.far M2.out.blk (p := ⟨p, 1, none⟩) (Blk.ne_ M2.out.blk P2 (by decide)) _, Blk.far M2.out.row (p := ⟨p, 1, none⟩) hpd.symm _⟩, T2.out.set_ 1 _ (.inl (by simp))⟩
/-- there is no room -/
theorem palAdd_no {n m : Int} (h : PalAt w p b n m) (hn : m ≤ n) (c0 c1 c2 c3 : Int) :
    Calls Try.prog 13 #[.pointer (some ⟨p, 0, none⟩), .agg #[.int .u8 c0, .int .u8 c1, .int .u8 c2, .int .u8 c3]] w fun e w' => e = .returned (.bool false) ∧ Below w.heap.size w w' := by
  have P0 : PalAt (w.alloc (.cells #[.int .u8 c0, .int .u8 c1, .int .u8 c2, .int .u8 c3] 34)) p b n m := Blk.alloc h _
  have T0 : Below w.heap.size w (w.alloc (.cells #[.int .u8 c0, .int .u8 c1, .int .u8 c2, .int .u8 c3] 34)) := (Below.refl _ _).alloc (Nat.le_refl _) _
  have n1 := P0.n_
  have n2 := P0.m_
  clear h P0
  go_enter Try.func13, Try.ntmps13
  go_wp2_with fail
  go_quiet (fail)
  go_wp2_with fail
  go_ret
  exact ⟨rfl, below_drewN T0 _⟩
set_option maxRecDepth 100000 in
set_option maxHeartbeats 1000000 in
theorem palOf_yes {i n : Nat} {m : Int} {c0 c1 c2 c3 : UInt8} (h : PalAt w p b (n : Int) m) (hm : BufAt w b g d l) (hi : i < n) (hn2 : n ≤ 65536) (hl : 4 * i + 4 ≤ l.length) (hs : l.length ≤ 1099511627776) (hq : (l.drop (4 * i)).take 4 = [c0, c1, c2, c3]) :
    Calls Try.prog 19 #[.pointer (some ⟨p, 0, none⟩), .int .i64 (i : Int)] w fun e w' => e = .returned (.tuple #[.agg #[.int .u8 (c0.toNat : Int), .int .u8 (c1.toNat : Int), .int .u8 (c2.toNat : Int), .int .u8 (c3.toNat : Int)], .bool true]) ∧ Below w.heap.size w w' := by
  have R0 : CB (w.alloc (.cells #[.int .u8 0, .int .u8 0, .int .u8 0, .int .u8 0] 34)) w.heap.size 0 0 0 0 := Blk.new _ _ _
  have B0 : Below w.heap.size w (w.alloc (.cells #[.int .u8 0, .int .u8 0, .int .u8 0, .int .u8 0] 34)) := (Below.refl _ _).alloc (Nat.le_refl _) _
  have P0 : PalAt (w.alloc (.cells #[.int .u8 0, .int .u8 0, .int .u8 0, .int .u8 0] 34)) p b (n : Int) m := Blk.alloc h _
  have m1 : BufAt (w.alloc (.cells #[.int .u8 0, .int .u8 0, .int .u8 0, .int .u8 0] 34)) b g d l := ⟨hm.blk.alloc _, hm.row.alloc _⟩
  obtain ⟨s, hsq⟩ : ∃ s, s = strOf ((l.drop (4 * i)).take 4) := ⟨_, rfl⟩
  have HG0 := bufGet_yes (i := 4 * i) (n := 4) m1 hl hs
  rw [← hsq, show ((4 * i : Nat) : Int) = 4 * (i : Int) by omega] at HG0
  have HG := Lib.hid HG0
  have d0 := P0.b_
  have d1 := P0.n_
  have hz : s.size = 4 := by rw [hsq, hq]; rfl
  have q0 : (0 : Int) < (s.size : Int) := by omega
  have q1 : (1 : Int) < (s.size : Int) := by omega
  have q2 : (2 : Int) < (s.size : Int) := by omega
  have q3 : (3 : Int) < (s.size : Int) := by omega
  have p0 : 0 < s.size := by omega
  have p1 : 1 < s.size := by omega
  have p2 : 2 < s.size := by omega
  have p3 : 3 < s.size := by omega
  rw [hq] at hsq
  have e0 : s[0].toNat = c0.toNat := by subst hsq; rfl
  have e1 : s[1].toNat = c1.toNat := by subst hsq; rfl
  have e2 : s[2].toNat = c2.toNat := by subst hsq; rfl
  have e3 : s[3].toNat = c3.toNat := by subst hsq; rfl
  have i0 : ¬ (i : Int) < 0 := by omega
  have i1 : ¬ (n : Int) ≤ (i : Int) := by omega
  have r0 := R0.c0
  have r1 := R0.c1
  have r2 := R0.c2
  have r3 := R0.c3
  have z0 := Blk.frozen R0 0
  have z1 := Blk.frozen R0 1
  have z2 := Blk.frozen R0 2
  have z3 := Blk.frozen R0 3
  have hib : i ≤ 65536 := by omega
  clear h hm m1 hsq hq HG0 hz P0 hl
  go_enter Try.func19, Try.ntmps19
  go_wp2_with (go_at_call 52; refine HG.out.mono ?_; rintro e w9 ⟨rfl, rfl⟩)
  go_region
  all_goals go_wp2_with fail
  exact bodyPost_ret (v := .tuple #[.agg #[.int .u8 (c0.toNat : Int), .int .u8 (c1.toNat : Int), .int .u8 (c2.toNat : Int), .int .u8 (c3.toNat : Int)], .bool true]) (by simp [results, Try.results19, go_sem]) rfl ⟨rfl, ((Below.refl _ _).alloc (Nat.le_refl _) _).drew⟩
theorem palOf_no {i n m : Int} (h : PalAt w p b n m) (hi : i < 0 ∨ n ≤ i) :
    Calls Try.prog 19 #[.pointer (some ⟨p, 0, none⟩), .int .i64 i] w fun e w' => e = .returned (.tuple #[.agg #[.int .u8 0, .int .u8 0, .int .u8 0, .int .u8 0], .bool false]) ∧ Below w.heap.size w w' := by
  have P0 : PalAt (w.alloc (.cells #[.int .u8 0, .int .u8 0, .int .u8 0, .int .u8 0] 34)) p b n m := Blk.alloc h _
  have d1 := P0.n_
  clear h P0
  by_cases h0 : i < 0
  · clear hi
    go_enter Try.func19, Try.ntmps19
    go_wp2_with fail
    exact bodyPost_ret (v := .tuple #[.agg #[.int .u8 0, .int .u8 0, .int .u8 0, .int .u8 0], .bool false]) (by simp [results, Try.results19, go_sem]) rfl ⟨rfl, (Below.refl _ _).alloc (Nat.le_refl _) _⟩
  · have h1 : n ≤ i := by omega
    clear hi
    go_enter Try.func19, Try.ntmps19
    go_wp2_with fail
    exact bodyPost_ret (v := .tuple #[.agg #[.int .u8 0, .int .u8 0, .int .u8 0, .int .u8 0], .bool false]) (by simp [results, Try.results19, go_sem]) rfl ⟨rfl, (Below.refl _ _).alloc (Nat.le_refl _) _⟩
theorem PalAt.zero {n m : Int} (h : PalAt w p b n m) : PalAt ((w.setCell ⟨p, 1, none⟩ (.int .i64 0)).setCell ⟨p, 2, none⟩ (.int .i64 0)) p b 0 0 := ((Blk.set_ h 1 _).set_ 2 _).eq_ rfl
theorem palFree_yes {n m : Int} {x y : Led} (h : PalAt w p b n m) (hm : BufAt w b g d l) (k : LedAt w g x) (ok : x.Ok) (e : x.give l.length = (y, true)) :
    Calls Try.prog 20 #[.pointer (some ⟨p, 0, none⟩)] w fun e w' => e = .returned (.bool true) ∧ PalAt w' p b 0 0 ∧ BufOff w' b g ∧ LedAt w' g y ∧ Turn [p, b, g] w w' := by
  have hpb : p ≠ b := Blk.ne_ h hm.blk (by decide)
  have hpd : p ≠ d := Blk.ne_ h hm.row (by decide)
  have hpg : p ≠ g := Blk.ne_ h k (by decide)
  have P1 := PalAt.zero h
  have M1 : BufAt ((w.setCell ⟨p, 1, none⟩ (.int .i64 0)).setCell ⟨p, 2, none⟩ (.int .i64 0)) b g d l := ⟨Blk.far (Blk.far hm.blk (p := ⟨p, 1, none⟩) hpb.symm _) (p := ⟨p, 2, none⟩) hpb.symm _, Blk.far (Blk.far hm.row (p := ⟨p, 1, none⟩) hpd.symm _) (p := ⟨p, 2, none⟩) hpd.symm _⟩
  have K1 : LedAt ((w.setCell ⟨p, 1, none⟩ (.int .i64 0)).setCell ⟨p, 2, none⟩ (.int .i64 0)) g x := Blk.far (Blk.far k (p := ⟨p, 1, none⟩) hpg.symm _) (p := ⟨p, 2, none⟩) hpg.symm _
  have T1 : Turn [p, b, g] w ((w.setCell ⟨p, 1, none⟩ (.int .i64 0)).setCell ⟨p, 2, none⟩ (.int .i64 0)) := ((Turn.refl _ _).set_ 1 _ (.inl (by simp))).set_ 2 _ (.inl (by simp))
  have HF := Lib.hid (bufFree_first M1 K1 ok e)
  have n1 := h.n_
  have n2 := h.m_
  have n0 := h.b_
  have z1 := Blk.frozen h 1
  have z2 := Blk.frozen h 2
  have HP := Lib.hid P1
  have HT := Lib.hid T1
  clear h hm k ok e M1 K1 P1 T1
  go_enter Try.func20, Try.ntmps20
  go_wp2_with (go_at_call 53; refine HF.out.mono ?_; rintro e w2 ⟨rfl, o2, l2, t2⟩)
  go_ret
  exact ⟨rfl, Blk.turn HP.out t2 (by simp [hpb, hpg]), o2, l2, HT.out.trans (t2.mono (by simp))⟩
theorem palFree_done {n m : Int} (h : PalAt w p b n m) (hm : BufOff w b g) :
    Calls Try.prog 20 #[.pointer (some ⟨p, 0, none⟩)] w fun e w' => e = .returned (.bool false) ∧ PalAt w' p b 0 0 ∧ Turn [p] w w' := by
  have hpb : p ≠ b := Blk.ne_ h hm (by decide)
  have P1 := PalAt.zero h
  have M1 : BufOff ((w.setCell ⟨p, 1, none⟩ (.int .i64 0)).setCell ⟨p, 2, none⟩ (.int .i64 0)) b g := Blk.far (Blk.far hm (p := ⟨p, 1, none⟩) hpb.symm _) (p := ⟨p, 2, none⟩) hpb.symm _
  have T1 : Turn [p] w ((w.setCell ⟨p, 1, none⟩ (.int .i64 0)).setCell ⟨p, 2, none⟩ (.int .i64 0)) := ((Turn.refl _ _).set_ 1 _ (.inl (by simp))).set_ 2 _ (.inl (by simp))
  have HF := Lib.hid (bufFree_done M1)
  have n1 := h.n_
  have n2 := h.m_
  have n0 := h.b_
  have z1 := Blk.frozen h 1
  have z2 := Blk.frozen h 2
  have HP := Lib.hid P1
  have HT := Lib.hid T1
  clear h hm M1 P1 T1
  go_enter Try.func20, Try.ntmps20
  go_wp2_with (go_at_call 53; refine HF.out.mono ?_; rintro e w2 ⟨rfl, b2⟩)
  go_ret
  exact ⟨rfl, Blk.below HP.out b2 (Blk.lt HP.out), HT.out.trans (Turn.of_below b2)⟩
end
end Go.Proofs.Ytkaijekdnbhjaaa
