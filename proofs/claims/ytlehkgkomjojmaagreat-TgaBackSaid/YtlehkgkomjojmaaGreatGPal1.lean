/- A palette's block; New; the law PaletteNew. A palette's Add, Of, Free. A palette as a list of colours; an entry's colour; Read. -/
import Derived.Test.YtlehkgkomjojmaaGreatSq
import Derived.Test.YtlehkgkomjojmaaGreatGBuf
import Derived.Test.YtlehkgkomjojmaaGreatGPaletteW
import Derived.Test.YtlehkgkomjojmaaGreatGSync
import Derived.OpenShut
import Derived.Test.YtlehkgkomjojmaaGreatGRas
import Derived.Deep.RegionHeld3
import Derived.Test.YtlehkgkomjojmaaGreatGBits
import Derived.Test.YtlehkgkomjojmaaGreatGScaler
namespace Go.Proofs.YtlehkgkomjojmaaGreat
open Go.RowKit
set_option linter.unusedVariables false

def palCells (b : Nat) (n m : Int) : Array Value := #[.pointer (some ⟨b, 0, none⟩), .int .i64 n, .int .i64 m]
def PalAt (w : World) (p b : Nat) (n m : Int) : Prop := Blk w p 232 (palCells b n m)

theorem palNew_yes {w : World} {g : Nat} {x y : Led} {m : Nat} (h : LedAt w g x) (ok : x.Ok) (e : x.take ((4 * m : Nat) : Int) = (y, true)) (h1 : 1 ≤ m) (h2 : m ≤ 65536) :
  Calls Tryz.prog 142 #[.pointer (some ⟨g, 0, none⟩), .int .i64 (m : Int)] w fun e w' => ∃ p b d, e = .returned (.tuple #[.pointer (some ⟨p, 0, none⟩), .int .i64 0]) ∧ PalAt w' p b 0 m ∧ BufAt w' b g d (List.replicate (4 * m) 0) ∧ LedAt w' g y ∧ w.heap.size ≤ p ∧ w.heap.size ≤ b ∧ w.heap.size ≤ d ∧ Turn [g] w w' := by
 have n0 : ¬ (m : Int) < 1 := by omega
 have n1 : ¬ (65536 : Int) < (m : Int) := by omega
 have hi : wrap64 (4 * (m : Int)) = 4 * (m : Int) := wrap64_id _ (by omega) (by omega)
 have HM0 := bufMake_yes h ok e (by omega)
 rw [show ((4 * m : Nat) : Int) = 4 * (m : Int) by omega] at HM0
 have HM := Lib.hid HM0
 clear h ok e HM0
 go_enter Tryz.func142, Tryz.ntmps142
 go_wp2_with (go_at_call 86; refine HM.out.mono ?_; rintro e w1 ⟨b, d, rfl, m1, m2, m3, m4, m5⟩)
 go_ret2
 have s1 := m5.size
 exact ⟨w1.heap.size, b, d, rfl, (Blk.new _ _ _).eq_ rfl, ⟨m1.blk.alloc _, m1.row.alloc _⟩, Blk.alloc m2 _, s1, m3, m4, m5.alloc _⟩
theorem palNew_no {w : World} {g : Nat} {x y : Led} {m : Nat} (h : LedAt w g x) (ok : x.Ok) (e : x.take ((4 * m : Nat) : Int) = (y, false)) (h1 : 1 ≤ m) (h2 : m ≤ 65536) :
  Calls Tryz.prog 142 #[.pointer (some ⟨g, 0, none⟩), .int .i64 (m : Int)] w fun e w' => e = .returned (.tuple #[.pointer none, .int .i64 4]) ∧ LedAt w' g y ∧ Turn [g] w w' := by
 have n0 : ¬ (m : Int) < 1 := by omega
 have n1 : ¬ (65536 : Int) < (m : Int) := by omega
 have hi : wrap64 (4 * (m : Int)) = 4 * (m : Int) := wrap64_id _ (by omega) (by omega)
 have HM0 := bufMake_no h ok e (by omega)
 rw [show ((4 * m : Nat) : Int) = 4 * (m : Int) by omega] at HM0
 have HM := Lib.hid HM0
 clear h ok e HM0
 go_enter Tryz.func142, Tryz.ntmps142
 go_wp2_with (go_at_call 86; refine HM.out.mono ?_; rintro e w1 ⟨rfl, m2, m5⟩)
 go_ret2
 exact ⟨rfl, m2, m5⟩
end Go.Proofs.YtlehkgkomjojmaaGreat
namespace Go.Proofs.YtlehkgkomjojmaaGreat
open Go.RowKit
set_option linter.unusedVariables false
set_option linter.unusedSimpArgs false

section
variable {w : World} {p b g d : Nat} {l : List UInt8}
theorem PalAt.b_ {n m : Int} (h : PalAt w p b n m) : w.cell? ⟨p, 0, none⟩ = some (.pointer (some ⟨b, 0, none⟩)) := Blk.cell h 0
theorem PalAt.n_ {n m : Int} (h : PalAt w p b n m) : w.cell? ⟨p, 1, none⟩ = some (.int .i64 n) := Blk.cell h 1
theorem PalAt.m_ {n m : Int} (h : PalAt w p b n m) : w.cell? ⟨p, 2, none⟩ = some (.int .i64 m) := Blk.cell h 2
set_option maxRecDepth 100000 in
set_option maxHeartbeats 1000000 in
theorem palAdd_yes {n m : Nat} (h : PalAt w p b (n : Int) (m : Int)) (hm : BufAt w b g d l) (hn : n < m) (hm2 : m ≤ 65536) (hl : 4 * n + 4 ≤ l.length) (hs : l.length ≤ 1099511627776) (c0 c1 c2 c3 : UInt8) :
  Calls Tryz.prog 143 #[.pointer (some ⟨p, 0, none⟩), .agg #[.int .u8 (c0.toNat : Int), .int .u8 (c1.toNat : Int), .int .u8 (c2.toNat : Int), .int .u8 (c3.toNat : Int)]] w fun e w' => e = .returned (.bool true) ∧ PalAt w' p b ((n + 1 : Nat) : Int) (m : Int) ∧ BufAt w' b g d (over l (4 * n) [c0, c1, c2, c3]) ∧ Turn [p, d] w w' := by
 have X0 : CB (w.alloc (.cells #[.int .u8 (c0.toNat : Int), .int .u8 (c1.toNat : Int), .int .u8 (c2.toNat : Int), .int .u8 (c3.toNat : Int)] 68)) w.heap.size (c0.toNat : Int) (c1.toNat : Int) (c2.toNat : Int) (c3.toNat : Int) := Blk.new _ _ _
 have P0 : PalAt (w.alloc (.cells #[.int .u8 (c0.toNat : Int), .int .u8 (c1.toNat : Int), .int .u8 (c2.toNat : Int), .int .u8 (c3.toNat : Int)] 68)) p b (n : Int) (m : Int) := Blk.alloc h _
 have M0 : BufAt (w.alloc (.cells #[.int .u8 (c0.toNat : Int), .int .u8 (c1.toNat : Int), .int .u8 (c2.toNat : Int), .int .u8 (c3.toNat : Int)] 68)) b g d l := ⟨hm.blk.alloc _, hm.row.alloc _⟩
 have T0 : Turn [p, d] w (w.alloc (.cells #[.int .u8 (c0.toNat : Int), .int .u8 (c1.toNat : Int), .int .u8 (c2.toNat : Int), .int .u8 (c3.toNat : Int)] 68)) := (Turn.refl _ _).alloc _
 have hpd : p ≠ d := Blk.ne_ h hm.row (by decide)
 have hpw := Blk.lt h
 have n1 := P0.n_
 have n2 := P0.m_
 have hni : ¬ (m : Int) ≤ (n : Int) := by omega
 have hxx : ((n : Nat) : Int) < (m : Int) := by omega
 have HLL := Lib.hid hl
 clear h hm hl
 go_enter Tryz.func143, Tryz.ntmps143
 go_wp2_with fail
 go_quiet (fail)
 go_wp2_with fail
 have X1 : CB ((w.alloc (.cells #[.int .u8 (c0.toNat : Int), .int .u8 (c1.toNat : Int), .int .u8 (c2.toNat : Int), .int .u8 (c3.toNat : Int)] 68)).drewN nq) w.heap.size (c0.toNat : Int) (c1.toNat : Int) (c2.toNat : Int) (c3.toNat : Int) := Blk.drewN X0 nq
 have P1 : PalAt ((w.alloc (.cells #[.int .u8 (c0.toNat : Int), .int .u8 (c1.toNat : Int), .int .u8 (c2.toNat : Int), .int .u8 (c3.toNat : Int)] 68)).drewN nq) p b (n : Int) (m : Int) := Blk.drewN P0 nq
 have M1 : BufAt ((w.alloc (.cells #[.int .u8 (c0.toNat : Int), .int .u8 (c1.toNat : Int), .int .u8 (c2.toNat : Int), .int .u8 (c3.toNat : Int)] 68)).drewN nq) b g d l := ⟨M0.blk.drewN nq, M0.row.drewN nq⟩
 have T1 : Turn [p, d] w ((w.alloc (.cells #[.int .u8 (c0.toNat : Int), .int .u8 (c1.toNat : Int), .int .u8 (c2.toNat : Int), .int .u8 (c3.toNat : Int)] 68)).drewN nq) := T0.drewN nq
 generalize ((w.alloc (.cells #[.int .u8 (c0.toNat : Int), .int .u8 (c1.toNat : Int), .int .u8 (c2.toNat : Int), .int .u8 (c3.toNat : Int)] 68)).drewN nq) = wx at X1 P1 M1 T1 ⊢
 clear X0 P0 M0 T0 n1 n2
 have hpx := Blk.lt P1
 have hxx2 := Blk.lt X1
 have nzp : p ≠ wx.heap.size := Nat.ne_of_lt hpx
 have nzx : w.heap.size ≠ wx.heap.size := Nat.ne_of_lt hxx2
 have q0 := P1.b_
 have q1 := P1.n_
 have x0 := X1.c0
 have x1 := X1.c1
 have x2 := X1.c2
 have x3 := X1.c3
 have kp0 : ∀ ob, (wx.alloc ob).cell? ⟨p, 0, none⟩ = some (.pointer (some ⟨b, 0, none⟩)) := fun ob => (World.cell?_of_block (Below.heap_alloc wx ob p hpx)).trans q0
 have kp1 : ∀ ob, (wx.alloc ob).cell? ⟨p, 1, none⟩ = some (.int .i64 (n : Int)) := fun ob => (World.cell?_of_block (Below.heap_alloc wx ob p hpx)).trans q1
 have hcv : (convert 22 9 (.slice (some ⟨wx.heap.size, 0, none⟩) 4 4)).run Tryz.prog (wx.alloc (.cells #[.int .u8 (c0.toNat : Int), .int .u8 (c1.toNat : Int), .int .u8 (c2.toNat : Int), .int .u8 (c3.toNat : Int)] 5)).drew = .ok (.string (strOf [c0, c1, c2, c3])) (wx.alloc (.cells #[.int .u8 (c0.toNat : Int), .int .u8 (c1.toNat : Int), .int .u8 (c2.toNat : Int), .int .u8 (c3.toNat : Int)] 5)).drew :=
  run_convert_bytes_back (P := Tryz.prog) _ 22 9 5 ⟨wx.heap.size, 0, none⟩ 4 [c0, c1, c2, c3] Tryz.underlying22 Tryz.underlying5 Tryz.underlying9 (fun j hj => by
   have h4 : j < 4 := hj
   rw [show (⟨wx.heap.size, 0, none⟩ : Addr).add j = ⟨wx.heap.size, j, none⟩ by unfold Addr.add; split <;> simp_all]
   refine (cell_new wx _ _ j _ rfl).trans ?_
   match j, h4 with
   | 0, _ => rfl
   | 1, _ => rfl
   | 2, _ => rfl
   | 3, _ => rfl)
 obtain ⟨s, hs4⟩ : ∃ s, s = strOf [c0, c1, c2, c3] := ⟨_, rfl⟩
 have hss : s.size = 4 := by rw [hs4]; rfl
 have hsl : s.data.toList = [c0, c1, c2, c3] := by rw [hs4]; rfl
 rw [← hs4] at hcv
 have HP0 := bufPut_yes (i := 4 * n) s (⟨(M1.blk.alloc (.cells #[.int .u8 (c0.toNat : Int), .int .u8 (c1.toNat : Int), .int .u8 (c2.toNat : Int), .int .u8 (c3.toNat : Int)] 5)).drew, (M1.row.alloc (.cells #[.int .u8 (c0.toNat : Int), .int .u8 (c1.toNat : Int), .int .u8 (c2.toNat : Int), .int .u8 (c3.toNat : Int)] 5)).drew⟩ : BufAt (wx.alloc (.cells #[.int .u8 (c0.toNat : Int), .int .u8 (c1.toNat : Int), .int .u8 (c2.toNat : Int), .int .u8 (c3.toNat : Int)] 5)).drew b g d l) (by rw [hss]; exact HLL.out) hs
 rw [show ((4 * n : Nat) : Int) = IntKind.i64.wrap (4 * (n : Int)) by (rw [IntWalk.i64_in _ (by omega)]; omega), hsl] at HP0
 have HP := Lib.hid HP0
 have HT := Lib.hid ((T1.alloc (.cells #[.int .u8 (c0.toNat : Int), .int .u8 (c1.toNat : Int), .int .u8 (c2.toNat : Int), .int .u8 (c3.toNat : Int)] 5)).drew)
 have HPA := Lib.hid ((Blk.drew (Blk.alloc P1 (.cells #[.int .u8 (c0.toNat : Int), .int .u8 (c1.toNat : Int), .int .u8 (c2.toNat : Int), .int .u8 (c3.toNat : Int)] 5)) : PalAt (wx.alloc (.cells #[.int .u8 (c0.toNat : Int), .int .u8 (c1.toNat : Int), .int .u8 (c2.toNat : Int), .int .u8 (c3.toNat : Int)] 5)).drew p b (n : Int) (m : Int)))
 have HM : Hid (BufAt wx b g d l) := Lib.hid M1
 have hxd : w.heap.size ≠ d := Blk.ne_ X1 M1.row (by decide)
 have HXA := Lib.hid ((Blk.drew (Blk.alloc X1 (.cells #[.int .u8 (c0.toNat : Int), .int .u8 (c1.toNat : Int), .int .u8 (c2.toNat : Int), .int .u8 (c3.toNat : Int)] 5)) : CB (wx.alloc (.cells #[.int .u8 (c0.toNat : Int), .int .u8 (c1.toNat : Int), .int .u8 (c2.toNat : Int), .int .u8 (c3.toNat : Int)] 5)).drew w.heap.size (c0.toNat : Int) (c1.toNat : Int) (c2.toNat : Int) (c3.toNat : Int)))
 clear hs4 HP0 X1 P1 M1 T1 hss hsl
 have kx0 : ∀ ob, (wx.alloc ob).cell? ⟨w.heap.size, 0, none⟩ = some (.int .u8 (c0.toNat : Int)) := fun ob => (World.cell?_of_block (Below.heap_alloc wx ob w.heap.size hxx2)).trans x0
 have kx1 : ∀ ob, (wx.alloc ob).cell? ⟨w.heap.size, 1, none⟩ = some (.int .u8 (c1.toNat : Int)) := fun ob => (World.cell?_of_block (Below.heap_alloc wx ob w.heap.size hxx2)).trans x1
 have kx2 : ∀ ob, (wx.alloc ob).cell? ⟨w.heap.size, 2, none⟩ = some (.int .u8 (c2.toNat : Int)) := fun ob => (World.cell?_of_block (Below.heap_alloc wx ob w.heap.size hxx2)).trans x2
 have kx3 : ∀ ob, (wx.alloc ob).cell? ⟨w.heap.size, 3, none⟩ = some (.int .u8 (c3.toNat : Int)) := fun ob => (World.cell?_of_block (Below.heap_alloc wx ob w.heap.size hxx2)).trans x3
 refine wp_region_held_drew (S := (fun w' => w'.cell? ⟨p, 0, none⟩ = some (.pointer (some ⟨b, 0, none⟩)) ∧ w'.cell? ⟨p, 1, none⟩ = some (.int .i64 (n : Int)) ∧ w'.cell? ⟨w.heap.size, 0, none⟩ = some (.int .u8 (c0.toNat : Int)) ∧ w'.cell? ⟨w.heap.size, 1, none⟩ = some (.int .u8 (c1.toNat : Int)) ∧ w'.cell? ⟨w.heap.size, 2, none⟩ = some (.int .u8 (c2.toNat : Int)) ∧ w'.cell? ⟨w.heap.size, 3, none⟩ = some (.int .u8 (c3.toNat : Int)))) (by kernel_rfl) ⟨q0, q1, x0, x1, x2, x3⟩ (fun hHeld => ?_)
 refine wpAnyH_take (i := 0) (v := ?_) rfl (by kernel_rfl) (by kernel_rfl) (by kernel_rfl) (fun _ _ _ h => h) (Or.inl ⟨by rfl, ?_⟩) (by assumption) ?_
 rotate_left
 ·intro w hSw; (try dsimp only at hSw); go_simp; (try with_reducible rfl)
 (try simp only [sps])
 refine wpAnyH_take (i := 1) (v := ?_) rfl (by kernel_rfl) (by kernel_rfl) (by kernel_rfl) (fun _ _ _ h => h) (Or.inl ⟨by rfl, ?_⟩) (by assumption) ?_
 rotate_left
 ·intro w hSw; (try dsimp only at hSw); go_simp; (try with_reducible rfl)
 (try simp only [sps])
 refine wpAnyH_take (i := 2) (v := ?_) rfl (by kernel_rfl) (by kernel_rfl) (by kernel_rfl) (fun _ _ _ h => h) (Or.inl ⟨by rfl, ?_⟩) (by assumption) ?_
 rotate_left
 ·intro w hSw; (try dsimp only at hSw); go_simp; (try with_reducible rfl)
 (try simp only [sps])
 refine wpAnyH_take (i := 3) (v := ?_) rfl (by kernel_rfl) (by kernel_rfl) (by kernel_rfl) (fun _ _ _ h => h) (Or.inl ⟨by rfl, ?_⟩) (by assumption) ?_
 rotate_left
 ·intro w hSw; (try dsimp only at hSw); go_simp; (try with_reducible rfl)
 (try simp only [sps])
 refine wpAnyH_take (i := 4) (v := ?_) rfl (by kernel_rfl) (by kernel_rfl) (by kernel_rfl) (fun _ _ _ h => h) (Or.inl ⟨by rfl, ?_⟩) (by assumption) ?_
 rotate_left
 ·intro w hSw; (try dsimp only at hSw); go_simp; (try with_reducible rfl)
 (try simp only [sps])
 refine wpAnyH_take (i := 5) (v := ?_) rfl (by kernel_rfl) (by kernel_rfl) (by kernel_rfl) (fun _ _ _ h => h) (Or.inl ⟨by rfl, ?_⟩) (by assumption) ?_
 rotate_left
 ·intro w hSw; (try dsimp only at hSw); go_simp; (try with_reducible rfl)
 (try simp only [sps])
 refine wpAnyH_take (i := 6) (v := ?_) rfl (by kernel_rfl) (by kernel_rfl) (by kernel_rfl) (fun _ _ _ h => h) (Or.inl ⟨by rfl, ?_⟩) (by assumption) ?_
 rotate_left
 ·intro w hSw; (try dsimp only at hSw); go_simp; (try with_reducible rfl)
 (try simp only [sps])
 refine wpAnyH_take (i := 7) (v := ?_) rfl (by kernel_rfl) (by kernel_rfl) (by kernel_rfl) (fun _ _ _ h => h) (Or.inl ⟨by rfl, ?_⟩) (by assumption) ?_
 rotate_left
 ·intro w hSw; (try dsimp only at hSw); go_simp; (try with_reducible rfl)
 (try simp only [sps])
 refine wpAnyH_take (i := 8) (v := ?_) rfl (by kernel_rfl) (by kernel_rfl) (by kernel_rfl) (fun _ _ _ h => h) (Or.inl ⟨by rfl, ?_⟩) (by assumption) ?_
 rotate_left
 ·intro w hSw; (try dsimp only at hSw); go_simp; (try with_reducible rfl)
 (try simp only [sps])
 refine wpAnyH_take (i := 9) (v := ?_) rfl (by kernel_rfl) (by kernel_rfl) (by kernel_rfl) (fun _ _ _ h => h) (Or.inl ⟨by rfl, ?_⟩) (by assumption) ?_
 rotate_left
 ·intro w hSw; (try dsimp only at hSw); go_simp; (try with_reducible rfl)
 (try simp only [sps])
 refine wpAnyH_take (i := 10) (v := ?_) rfl (by kernel_rfl) (by kernel_rfl) (by kernel_rfl) (fun _ _ _ h => h) (Or.inl ⟨by rfl, ?_⟩) (by assumption) ?_
 rotate_left
 ·intro w hSw; (try dsimp only at hSw); go_simp; (try with_reducible rfl)
 (try simp only [sps])
 refine wpAnyH_take (i := 11) (v := ?_) rfl (by kernel_rfl) (by kernel_rfl) (by kernel_rfl) (fun _ _ _ h => h) (Or.inl ⟨by rfl, ?_⟩) (by assumption) ?_
 rotate_left
 ·intro w hSw; (try dsimp only at hSw); go_simp; (try with_reducible rfl)
 (try simp only [sps])
 refine wpAnyH_take (i := 12) (v := ?_) rfl (by kernel_rfl) (by kernel_rfl) (by kernel_rfl) (fun _ _ _ h => h) (Or.inl ⟨by rfl, ?_⟩) (by assumption) ?_
 rotate_left
 ·intro w hSw; (try dsimp only at hSw); go_simp; (try with_reducible rfl)
 (try simp only [sps])
 refine wpAnyH_take (i := 13) (v := ?_) rfl (by kernel_rfl) (by kernel_rfl) (by kernel_rfl) (fun _ _ _ h => h) (Or.inl ⟨by rfl, ?_⟩) (by assumption) ?_
 rotate_left
 ·intro w hSw; (try dsimp only at hSw); go_simp; (try with_reducible rfl)
 (try simp only [sps])
 refine wpAnyH_take (i := 14) (v := ?_) rfl (by kernel_rfl) (by kernel_rfl) (by kernel_rfl) (fun _ _ _ h => h) (Or.inl ⟨by rfl, ?_⟩) (by assumption) ?_
 rotate_left
 ·intro w hSw; (try dsimp only at hSw); go_simp; (try with_reducible rfl)
 (try simp only [sps])
 refine wpAnyH_take (i := 15) (v := ?_) rfl (by kernel_rfl) (by kernel_rfl) (by kernel_rfl) (fun _ _ _ h => h) (Or.inl ⟨by rfl, ?_⟩) (by assumption) ?_
 rotate_left
 ·intro w hSw; (try dsimp only at hSw); go_simp; (try with_reducible rfl)
 (try simp only [sps])
 refine wpAnyH_take (i := 16) (v := ?_) rfl (by kernel_rfl) (by kernel_rfl) (by kernel_rfl) (fun _ _ _ h => h) (Or.inl ⟨by rfl, ?_⟩) (by assumption) ?_
 rotate_left
 ·intro w hSw; (try dsimp only at hSw); go_simp; (try with_reducible rfl)
 (try simp only [sps])
 refine rdy 17 (fun K hK => ?_)
 go_simp
 refine hK.out _ _ ⟨kp0 _, kp1 _, kx0 _, kx1 _, kx2 _, kx3 _⟩ (fun hHeld2 => ?_)
 clear hK K hHeld
 (try simp only [sps])
 refine rdy 18 (fun K hK => ?_)
 go_simp
 refine hK.out _ _ hHeld2 (fun hHeld3 => ?_)
 clear hK K hHeld2
 (try simp only [sps])
 refine rdy 19 (fun K hK => ?_)
 go_simp
 refine HP.out.mono ?_
 rintro e w2 ⟨rfl, m2, t2⟩
 have P2 : PalAt w2 p b (n : Int) (m : Int) := Blk.turn HPA.out t2 (by simpa using hpd)
 have X2 : CB w2 w.heap.size (c0.toNat : Int) (c1.toNat : Int) (c2.toNat : Int) (c3.toNat : Int) := Blk.turn HXA.out t2 (by simpa using hxd)
 have T2 := Lib.hid (HT.out.trans (t2.mono (S' := [p, d]) (by simp)))
 have M2 := Lib.hid m2
 refine hK.out _ _ ⟨P2.b_, P2.n_, X2.c0, X2.c1, X2.c2, X2.c3⟩ (fun _ => ?_)
 clear hK K hHeld3 m2 t2 HP HT HPA HXA hcv kp0 kp1 kx0 kx1 kx2 kx3 q0 q1 x0 x1 x2 x3 X2
 refine wpAnyH_done (by kernel_rfl) ?_ _
 have k1 := P2.n_
 have k1z := Blk.frozen P2 1
 have hb1 : (n : Int) + 1 ≤ 65536 := by omega
 go_wp2_with fail
 go_ret
 have e1 : ((n + 1 : Nat) : Int) = (n : Int) + 1 := by omega
 exact ⟨rfl, by rw [e1]; exact (Blk.set_ P2 1 _).eq_ rfl, ⟨Blk.far M2.out.blk (p := ⟨p, 1, none⟩) (Blk.ne_ M2.out.blk P2 (by decide)) _, Blk.far M2.out.row (p := ⟨p, 1, none⟩) hpd.symm _⟩, T2.out.set_ 1 _ (.inl (by simp))⟩
set_option maxRecDepth 100000 in
set_option maxHeartbeats 1000000 in
theorem palOf_yes {i n : Nat} {m : Int} {c0 c1 c2 c3 : UInt8} (h : PalAt w p b (n : Int) m) (hm : BufAt w b g d l) (hi : i < n) (hn2 : n ≤ 65536) (hl : 4 * i + 4 ≤ l.length) (hs : l.length ≤ 1099511627776) (hq : (l.drop (4 * i)).take 4 = [c0, c1, c2, c3]) :
  Calls Tryz.prog 154 #[.pointer (some ⟨p, 0, none⟩), .int .i64 (i : Int)] w fun e w' => e = .returned (.tuple #[.agg #[.int .u8 (c0.toNat : Int), .int .u8 (c1.toNat : Int), .int .u8 (c2.toNat : Int), .int .u8 (c3.toNat : Int)], .bool true]) ∧ Below w.heap.size w w' := by
 have R0 : CB (w.alloc (.cells #[.int .u8 0, .int .u8 0, .int .u8 0, .int .u8 0] 68)) w.heap.size 0 0 0 0 := Blk.new _ _ _
 have B0 : Below w.heap.size w (w.alloc (.cells #[.int .u8 0, .int .u8 0, .int .u8 0, .int .u8 0] 68)) := (Below.refl _ _).alloc (Nat.le_refl _) _
 have P0 : PalAt (w.alloc (.cells #[.int .u8 0, .int .u8 0, .int .u8 0, .int .u8 0] 68)) p b (n : Int) m := Blk.alloc h _
 have m1 : BufAt (w.alloc (.cells #[.int .u8 0, .int .u8 0, .int .u8 0, .int .u8 0] 68)) b g d l := ⟨hm.blk.alloc _, hm.row.alloc _⟩
 obtain ⟨s, hsq⟩ : ∃ s, s = strOf ((l.drop (4 * i)).take 4) := ⟨_, rfl⟩
 have HG0 := bufGet_yes (i := 4 * i) (n := 4) m1 hl hs
 rw [← hsq, show ((4 * i : Nat) : Int) = 4 * (i : Int) by omega] at HG0
 have HG := Lib.hid HG0
 have d0 := P0.b_
 have d1 := P0.n_
 have hz : s.size = 4 := by rw [hsq, hq]; rfl
 have q0 : (0 : Int) < (s.size : Int) := by omega
 have q1 : (1 : Int) < (s.size : Int) := by omega
 have q2 : (2 : Int) < (s.size : Int) := by omega
 have q3 : (3 : Int) < (s.size : Int) := by omega
 have p0 : 0 < s.size := by omega
 have p1 : 1 < s.size := by omega
 have p2 : 2 < s.size := by omega
 have p3 : 3 < s.size := by omega
 rw [hq] at hsq
 have e0 : s[0].toNat = c0.toNat := by subst hsq; rfl
 have e1 : s[1].toNat = c1.toNat := by subst hsq; rfl
 have e2 : s[2].toNat = c2.toNat := by subst hsq; rfl
 have e3 : s[3].toNat = c3.toNat := by subst hsq; rfl
 have i0 : ¬ (i : Int) < 0 := by omega
 have i1 : ¬ (n : Int) ≤ (i : Int) := by omega
 have r0 := R0.c0
 have r1 := R0.c1
 have r2 := R0.c2
 have r3 := R0.c3
 have z0 := Blk.frozen R0 0
 have z1 := Blk.frozen R0 1
 have z2 := Blk.frozen R0 2
 have z3 := Blk.frozen R0 3
 have hib : i ≤ 65536 := by omega
 clear h hm m1 hsq hq HG0 hz P0 hl
 go_enter Tryz.func154, Tryz.ntmps154
 go_wp2_with (go_at_call 194; refine HG.out.mono ?_; rintro e w9 ⟨rfl, rfl⟩)
 go_region
 all_goals go_wp2_with fail
 exact bodyPost_ret (v := .tuple #[.agg #[.int .u8 (c0.toNat : Int), .int .u8 (c1.toNat : Int), .int .u8 (c2.toNat : Int), .int .u8 (c3.toNat : Int)], .bool true]) (by simp [results, Tryz.results154, go_sem]) rfl ⟨rfl, ((Below.refl _ _).alloc (Nat.le_refl _) _).drew⟩
theorem palOf_no {i n m : Int} (h : PalAt w p b n m) (hi : i < 0 ∨ n ≤ i) :
  Calls Tryz.prog 154 #[.pointer (some ⟨p, 0, none⟩), .int .i64 i] w fun e w' => e = .returned (.tuple #[.agg #[.int .u8 0, .int .u8 0, .int .u8 0, .int .u8 0], .bool false]) ∧ Below w.heap.size w w' := by
 have P0 : PalAt (w.alloc (.cells #[.int .u8 0, .int .u8 0, .int .u8 0, .int .u8 0] 68)) p b n m := Blk.alloc h _
 have d1 := P0.n_
 clear h P0
 by_cases h0 : i < 0
 ·clear hi
  go_enter Tryz.func154, Tryz.ntmps154
  go_wp2_with fail
  exact bodyPost_ret (v := .tuple #[.agg #[.int .u8 0, .int .u8 0, .int .u8 0, .int .u8 0], .bool false]) (by simp [results, Tryz.results154, go_sem]) rfl ⟨rfl, (Below.refl _ _).alloc (Nat.le_refl _) _⟩
 ·have h1 : n ≤ i := by omega
  clear hi
  go_enter Tryz.func154, Tryz.ntmps154
  go_wp2_with fail
  exact bodyPost_ret (v := .tuple #[.agg #[.int .u8 0, .int .u8 0, .int .u8 0, .int .u8 0], .bool false]) (by simp [results, Tryz.results154, go_sem]) rfl ⟨rfl, (Below.refl _ _).alloc (Nat.le_refl _) _⟩
theorem PalAt.zero {n m : Int} (h : PalAt w p b n m) : PalAt ((w.setCell ⟨p, 1, none⟩ (.int .i64 0)).setCell ⟨p, 2, none⟩ (.int .i64 0)) p b 0 0 := ((Blk.set_ h 1 _).set_ 2 _).eq_ rfl
theorem palFree_yes {n m : Int} {x y : Led} (h : PalAt w p b n m) (hm : BufAt w b g d l) (k : LedAt w g x) (ok : x.Ok) (e : x.give l.length = (y, true)) :
  Calls Tryz.prog 91 #[.pointer (some ⟨p, 0, none⟩)] w fun e w' => e = .returned (.bool true) ∧ PalAt w' p b 0 0 ∧ BufOff w' b g ∧ LedAt w' g y ∧ Turn [p, b, g] w w' := by
 have hpb : p ≠ b := Blk.ne_ h hm.blk (by decide)
 have hpd : p ≠ d := Blk.ne_ h hm.row (by decide)
 have hpg : p ≠ g := Blk.ne_ h k (by decide)
 have P1 := PalAt.zero h
 have M1 : BufAt ((w.setCell ⟨p, 1, none⟩ (.int .i64 0)).setCell ⟨p, 2, none⟩ (.int .i64 0)) b g d l := ⟨Blk.far (Blk.far hm.blk (p := ⟨p, 1, none⟩) hpb.symm _) (p := ⟨p, 2, none⟩) hpb.symm _, Blk.far (Blk.far hm.row (p := ⟨p, 1, none⟩) hpd.symm _) (p := ⟨p, 2, none⟩) hpd.symm _⟩
 have K1 : LedAt ((w.setCell ⟨p, 1, none⟩ (.int .i64 0)).setCell ⟨p, 2, none⟩ (.int .i64 0)) g x := Blk.far (Blk.far k (p := ⟨p, 1, none⟩) hpg.symm _) (p := ⟨p, 2, none⟩) hpg.symm _
 have T1 : Turn [p, b, g] w ((w.setCell ⟨p, 1, none⟩ (.int .i64 0)).setCell ⟨p, 2, none⟩ (.int .i64 0)) := ((Turn.refl _ _).set_ 1 _ (.inl (by simp))).set_ 2 _ (.inl (by simp))
 have HF := Lib.hid (bufFree_first M1 K1 ok e)
 have n1 := h.n_
 have n2 := h.m_
 have n0 := h.b_
 have z1 := Blk.frozen h 1
 have z2 := Blk.frozen h 2
 have HP := Lib.hid P1
 have HT := Lib.hid T1
 clear h hm k ok e M1 K1 P1 T1
 go_enter Tryz.func91, Tryz.ntmps91
 go_wp2_with (go_at_call 93; refine HF.out.mono ?_; rintro e w2 ⟨rfl, o2, l2, t2⟩)
 go_ret
 exact ⟨rfl, Blk.turn HP.out t2 (by simp [hpb, hpg]), o2, l2, HT.out.trans (t2.mono (by simp))⟩
end
end Go.Proofs.YtlehkgkomjojmaaGreat
namespace Go.Proofs.YtlehkgkomjojmaaGreat
open Go.RowKit
set_option linter.unusedVariables false
set_option linter.unusedSimpArgs false

/-- the palette holds these colours -/
def PalHas (w : World) (p b g d m : Nat) (L : List Qc) : Prop := PalAt w p b (L.length : Int) (m : Int) ∧ L.length ≤ m ∧ ∃ rest, BufAt w b g d (flat L ++ rest) ∧ 4 * L.length + rest.length = 4 * m
section
variable {w w' : World} {p b g d m : Nat} {L : List Qc}
theorem PalHas.turn {S : List Nat} (h : PalHas w p b g d m L) (k : Turn S w w') (hp : p ∉ S) (hb : b ∉ S) (hd : d ∉ S) : PalHas w' p b g d m L := by
 obtain ⟨h1, h2, rest, h3, h4⟩ := h
 exact ⟨Blk.turn h1 k hp, h2, rest, h3.turn k hb hd, h4⟩
theorem PalHas.below (h : PalHas w p b g d m L) (k : Below w.heap.size w w') : PalHas w' p b g d m L := h.turn (Turn.of_below (S := []) k) (by simp) (by simp) (by simp)
theorem PalHas.lt (h : PalHas w p b g d m L) : p < w.heap.size ∧ b < w.heap.size ∧ d < w.heap.size := by
 obtain ⟨h1, h2, rest, h3, h4⟩ := h
 exact ⟨Blk.lt h1, Blk.lt h3.blk, Blk.lt h3.row⟩
theorem PalHas.led (h : PalHas w p b g d m L) {x : Led} (k : LedAt w g x) : p ≠ g ∧ b ≠ g ∧ d ≠ g := by
 obtain ⟨h1, h2, rest, h3, h4⟩ := h
 exact ⟨Blk.ne_ h1 k (by decide), h3.bg k, h3.dg k⟩
theorem PalHas.src (h : PalHas w p b g d m L) {q g' : Nat} {s : ByteArray} {f t a : Nat} (k : SrcAt w q g' s f t a) : p ≠ q ∧ b ≠ q ∧ d ≠ q := by
 obtain ⟨h1, h2, rest, h3, h4⟩ := h
 exact ⟨Blk.ne_ h1 k (by decide), Blk.ne_ h3.blk k (by decide), Blk.ne_ h3.row k (by decide)⟩
theorem PalHas.pbd (h : PalHas w p b g d m L) : p ≠ b ∧ p ≠ d ∧ b ≠ d := by
 obtain ⟨h1, h2, rest, h3, h4⟩ := h
 exact ⟨Blk.ne_ h1 h3.blk (by decide), Blk.ne_ h1 h3.row (by decide), h3.bd⟩
theorem has_new (h : PalAt w p b 0 (m : Int)) (hm : BufAt w b g d (List.replicate (4 * m) 0)) : PalHas w p b g d m [] := ⟨h, by simp, List.replicate (4 * m) 0, hm, by simp⟩
theorem has_add (h : PalHas w p b g d m L) (hn : L.length < m) (hm : m ≤ 65536) (q : Qc) :
  Calls Tryz.prog 143 #[.pointer (some ⟨p, 0, none⟩), .agg #[.int .u8 (q.r.toNat : Int), .int .u8 (q.g.toNat : Int), .int .u8 (q.b.toNat : Int), .int .u8 (q.a.toNat : Int)]] w fun e w' => e = .returned (.bool true) ∧ PalHas w' p b g d m (L ++ [q]) ∧ Turn [p, d] w w' := by
 obtain ⟨h1, h2, rest, h3, h4⟩ := h
 have hl : (flat L ++ rest).length = 4 * m := by rw [List.length_append, flat_len, h4]
 refine (palAdd_yes h1 h3 hn hm (by rw [hl]; omega) (by rw [hl]; omega) q.r q.g q.b q.a).mono ?_
 rintro e w' ⟨rfl, q1, q2, q3⟩
 refine ⟨rfl, ⟨by rw [List.length_append]; exact q1, by rw [List.length_append]; exact hn, rest.drop 4, ?_, by rw [List.length_append, List.length_drop]; simp; omega⟩, q3⟩
 have e : over (flat L ++ rest) (4 * L.length) [q.r, q.g, q.b, q.a] = flat (L ++ [q]) ++ rest.drop 4 := by
  unfold over
  have e1 : (flat L ++ rest).take (4 * L.length) = flat L := by rw [← flat_len, List.take_left]
  have e2 : (flat L ++ rest).drop (4 * L.length + 4) = rest.drop 4 := by rw [← List.drop_drop, ← flat_len, List.drop_left]
  rw [e1, show [q.r, q.g, q.b, q.a].length = 4 from rfl, e2, flat_append]
  simp [flat, Qc.list]
 rw [← e]
 exact q2
theorem has_of (h : PalHas w p b g d m L) (hm : m ≤ 65536) {i : Nat} {q : Qc} (hi : L[i]? = some q) :
  Calls Tryz.prog 154 #[.pointer (some ⟨p, 0, none⟩), .int .i64 (i : Int)] w fun e w' => e = .returned (.tuple #[.agg #[.int .u8 (q.r.toNat : Int), .int .u8 (q.g.toNat : Int), .int .u8 (q.b.toNat : Int), .int .u8 (q.a.toNat : Int)], .bool true]) ∧ Below w.heap.size w w' := by
 obtain ⟨h1, h2, rest, h3, h4⟩ := h
 have hil : i < L.length := (List.getElem?_eq_some_iff.1 hi).1
 have hl : (flat L ++ rest).length = 4 * m := by rw [List.length_append, flat_len, h4]
 exact palOf_yes h1 h3 hil (by omega) (by rw [hl]; omega) (by rw [hl]; omega) (flat_at L i q hi rest)
end

/-- the colour of an entry's bytes -/
def ecol (k : Int) (l : List UInt8) : Qc :=
 if k = 2 then ⟨UInt8.ofNat (pcol (strOf l) 10).toNat, UInt8.ofNat (pcol (strOf l) 5).toNat, UInt8.ofNat (pcol (strOf l) 0).toNat, 255⟩
 else if k = 5 then ⟨l.getD 2 0, l.getD 1 0, l.getD 0 0, l.getD 3 0⟩ else ⟨l.getD 2 0, l.getD 1 0, l.getD 0 0, 255⟩
theorem psize_pos {k : Int} (h : psize k ≠ 0) : k = 2 ∨ k = 3 ∨ k = 4 ∨ k = 5 := by
 unfold psize at h
 by_cases h2 : k = 2
 ·exact .inl h2
 by_cases h3 : k = 3
 ·exact .inr (.inl h3)
 by_cases h4 : k = 4
 ·exact .inr (.inr (.inl h4))
 by_cases h5 : k = 5
 ·exact .inr (.inr (.inr h5))
 rw [if_neg h2, if_neg h3, if_neg h4, if_neg h5] at h
 exact absurd rfl h
theorem psize_four {k : Int} : 0 ≤ psize k ∧ psize k ≤ 4 := by
 unfold psize
 repeat' split
 all_goals omega
theorem get_at (s : ByteArray) (i : Nat) (h : i < s.size) : s[i] = s.data.toList.getD i 0 := by
 have hl : i < s.data.toList.length := by rw [list_len]; exact h
 rw [List.getD_eq_getElem?_getD, List.getElem?_eq_getElem hl]
 rfl
theorem pcol_nat (s : ByteArray) (sh : Nat) : ((UInt8.ofNat (pcol s sh).toNat).toNat : Int) = pcol s sh := by
 have := pcol_range s sh
 rw [ofNat8 (by omega)]
 omega
theorem ecol_take {k : Int} {l : List UInt8} {n : Nat} (hk : psize k ≠ 0) (hn : psize k ≤ (n : Int)) : ecol k (l.take n) = ecol k l := by
 have hg : ∀ i, i < n → (l.take n).getD i 0 = l.getD i 0 := fun i hi => by
  rw [List.getD_eq_getElem?_getD, List.getD_eq_getElem?_getD, List.getElem?_take_of_lt hi]
 unfold ecol
 rcases psize_pos hk with rfl | rfl | rfl | rfl
 ·have hn2 : (2 : Int) ≤ (n : Int) := hn
  have e : pword (strOf (l.take n)) = pword (strOf l) := by
   unfold pword
   rw [strOf_toList, strOf_toList, hg 0 (by omega), hg 1 (by omega)]
  simp only [if_pos, pcol, e]
 ·have hn2 : (3 : Int) ≤ (n : Int) := hn
  rw [if_neg (by decide), if_neg (by decide), if_neg (by decide), if_neg (by decide), hg 0 (by omega), hg 1 (by omega), hg 2 (by omega)]
 ·have hn2 : (4 : Int) ≤ (n : Int) := hn
  rw [if_neg (by decide), if_neg (by decide), if_neg (by decide), if_neg (by decide), hg 0 (by omega), hg 1 (by omega), hg 2 (by omega)]
 ·have hn2 : (4 : Int) ≤ (n : Int) := hn
  rw [if_neg (by decide), if_pos rfl, if_neg (by decide), if_pos rfl, hg 0 (by omega), hg 1 (by omega), hg 2 (by omega), hg 3 (by omega)]
theorem entry_any (s : ByteArray) (k : Int) (w : World) (hk : psize k ≠ 0) (h : psize k ≤ (s.size : Int)) (hs : s.size ≤ 1073741824) :
  Calls Tryz.prog 196 #[.string s, .int .i64 k] w fun e w' => e = .returned (.tuple #[(ecol k s.data.toList).v, .bool true]) ∧ Below w.heap.size w w' := by
 rcases psize_pos hk with rfl | rfl | rfl | rfl
 ·have h2 : (2 : Int) ≤ (s.size : Int) := h
  have := entry_two s w (by omega) hs
  simp only [ecol, Qc.v, if_pos, strOf_of, pcol_nat]
  exact this
 ·have h2 : (3 : Int) ≤ (s.size : Int) := h
  have := entry_three s 3 w (.inl rfl) (by omega) hs (by omega) (by omega) (by omega)
  rw [get_at s 0 (by omega), get_at s 1 (by omega), get_at s 2 (by omega)] at this
  unfold ecol Qc.v
  rw [if_neg (by decide), if_neg (by decide)]
  exact this
 ·have h2 : (4 : Int) ≤ (s.size : Int) := h
  have := entry_three s 4 w (.inr rfl) (by omega) hs (by omega) (by omega) (by omega)
  rw [get_at s 0 (by omega), get_at s 1 (by omega), get_at s 2 (by omega)] at this
  unfold ecol Qc.v
  rw [if_neg (by decide), if_neg (by decide)]
  exact this
 ·have h2 : (4 : Int) ≤ (s.size : Int) := h
  have := entry_full s w (by omega) hs
  rw [get_at s 0 (by omega), get_at s 1 (by omega), get_at s 2 (by omega), get_at s 3 (by omega)] at this
  unfold ecol Qc.v
  rw [if_neg (by decide), if_pos rfl]
  exact this
theorem refEntry_any (s : ByteArray) (k : Int) (w : World) (hk : psize k ≠ 0) (h : psize k ≤ (s.size : Int)) (hs : s.size ≤ 1073741824) :
  Calls Tryz.prog 181 #[.string s, .int .i64 k] w fun e w' => e = .returned (ecol k s.data.toList).v ∧ Below w.heap.size w w' := by
 rcases psize_pos hk with rfl | rfl | rfl | rfl
 ·have h2 : (2 : Int) ≤ (s.size : Int) := h
  have := refEntry_two s w (by omega) hs
  simp only [ecol, Qc.v, if_pos, strOf_of, pcol_nat]
  exact this
 ·have h2 : (3 : Int) ≤ (s.size : Int) := h
  have := refEntry_three s 3 w (.inl rfl) hs (by omega) (by omega) (by omega)
  rw [get_at s 0 (by omega), get_at s 1 (by omega), get_at s 2 (by omega)] at this
  unfold ecol Qc.v
  rw [if_neg (by decide), if_neg (by decide)]
  exact this
 ·have h2 : (4 : Int) ≤ (s.size : Int) := h
  have := refEntry_three s 4 w (.inr rfl) hs (by omega) (by omega) (by omega)
  rw [get_at s 0 (by omega), get_at s 1 (by omega), get_at s 2 (by omega)] at this
  unfold ecol Qc.v
  rw [if_neg (by decide), if_neg (by decide)]
  exact this
 ·have h2 : (4 : Int) ≤ (s.size : Int) := h
  have := refEntry_full s w (by omega) hs
  rw [get_at s 0 (by omega), get_at s 1 (by omega), get_at s 2 (by omega), get_at s 3 (by omega)] at this
  unfold ecol Qc.v
  rw [if_neg (by decide), if_pos rfl]
  exact this
end Go.Proofs.YtlehkgkomjojmaaGreat
