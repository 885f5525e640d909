/- pnmhead.Read, way by way, by whatever ledger. -/
import Derived.Test.YthljhebbblhakaaGreatDoorEPnmStage
namespace Go.Proofs.YthljhebbblhakaaGreatDoor
open Go.RowKit
set_option linter.unusedVariables false
set_option linter.unusedSimpArgs false

def NumOkY (p g : Nat) (s : ByteArray) (x y : Led) (a most above V n : Nat) : Prop := ∀ w : World, SrcAt w p g s 0 s.size a → LedAt w g x → Calls Tryz.prog 49 #[.pointer (some ⟨p, 0, none⟩), .int .i64 (most : Int), .int .i64 (above : Int)] w fun e w' => e = .returned (.tuple #[.int .i64 (V : Int), .agg #[.int .i64 0, .int .i64 0, .int .i64 0]]) ∧ SrcAt w' p g s 0 s.size n ∧ LedAt w' g y ∧ Turn [p, g] w w'
def NumBadY (p g : Nat) (s : ByteArray) (x y : Led) (a most above kd pl : Nat) : Prop := ∀ w : World, SrcAt w p g s 0 s.size a → LedAt w g x → Calls Tryz.prog 49 #[.pointer (some ⟨p, 0, none⟩), .int .i64 (most : Int), .int .i64 (above : Int)] w fun e w' => e = .returned (.tuple #[.int .i64 0, .agg #[.int .i64 (kd : Int), .int .i64 3, .int .i64 (pl : Int)]]) ∧ LedAt w' g y ∧ Turn [p, g] w w'
def KindOkY (p g : Nat) (s : ByteArray) (x y : Led) (K : Nat) : Prop := ∀ w : World, SrcAt w p g s 0 s.size 0 → LedAt w g x → Calls Tryz.prog 48 #[.pointer (some ⟨p, 0, none⟩)] w fun e w' => e = .returned (.tuple #[.int .i64 (K : Int), .agg #[.int .i64 0, .int .i64 0, .int .i64 0]]) ∧ SrcAt w' p g s 0 s.size 2 ∧ LedAt w' g y ∧ Turn [p, g] w w'
def KindBadY (p g : Nat) (s : ByteArray) (x y : Led) (kd pl : Nat) : Prop := ∀ w : World, SrcAt w p g s 0 s.size 0 → LedAt w g x → Calls Tryz.prog 48 #[.pointer (some ⟨p, 0, none⟩)] w fun e w' => e = .returned (.tuple #[.int .i64 0, .agg #[.int .i64 (kd : Int), .int .i64 3, .int .i64 (pl : Int)]]) ∧ LedAt w' g y ∧ Turn [p, g] w w'
def OneOkY (p g : Nat) (s : ByteArray) (x y : Led) (a : Nat) : Prop := ∀ w : World, SrcAt w p g s 0 s.size a → LedAt w g x → Calls Tryz.prog 51 #[.pointer (some ⟨p, 0, none⟩)] w fun e w' => e = .returned (.agg #[.int .i64 0, .int .i64 0, .int .i64 0]) ∧ SrcAt w' p g s 0 s.size (a + 1) ∧ LedAt w' g y ∧ Turn [p, g] w w'
def OneBadY (p g : Nat) (s : ByteArray) (x y : Led) (a kd pl : Nat) : Prop := ∀ w : World, SrcAt w p g s 0 s.size a → LedAt w g x → Calls Tryz.prog 51 #[.pointer (some ⟨p, 0, none⟩)] w fun e w' => e = .returned (.agg #[.int .i64 (kd : Int), .int .i64 3, .int .i64 (pl : Int)]) ∧ LedAt w' g y ∧ Turn [p, g] w w'
theorem LedAt.stageF {w : World} {g n : Nat} {x : Led} (h : LedAt w g x) (gk gf ga : Int) (hp : g < n) : LedAt (stF w n gk gf ga) g x := by
  have e2 : g ≠ n + 3 := by omega
  exact ((Blk.far h (p := ⟨n + 3, 0, none⟩) e2 _).far (p := ⟨n + 3, 1, none⟩) e2 _).far (p := ⟨n + 3, 2, none⟩) e2 _
theorem LedAt.at4 {w : World} {g n : Nat} {x : Led} (h : LedAt w g x) (t' : Int) (hp : g < n) : LedAt (w.setCell ⟨n + 2, 4, none⟩ (.int .i64 t')) g x := Blk.far h (p := ⟨n + 2, 4, none⟩) (show g ≠ n + 2 by omega) _
theorem LedAt.fin {w : World} {g n : Nat} {x : Led} (h : LedAt w g x) (k' a' b' m' t' gk gf ga : Int) (hp : g < n) : LedAt (fiW w n k' a' b' m' t' gk gf ga) g x := by
  have e1 : g ≠ n := by omega
  have e2 : g ≠ n + 1 := by omega
  exact (((((((Blk.far h (p := ⟨n, 0, none⟩) e1 _).far (p := ⟨n, 1, none⟩) e1 _).far (p := ⟨n, 2, none⟩) e1 _).far (p := ⟨n, 3, none⟩) e1 _).far (p := ⟨n, 4, none⟩) e1 _).far (p := ⟨n + 1, 0, none⟩) e2 _).far (p := ⟨n + 1, 1, none⟩) e2 _).far (p := ⟨n + 1, 2, none⟩) e2 _
set_option maxRecDepth 100000 in
set_option maxHeartbeats 1000000 in
theorem rdBad0 {w : World} {p g : Nat} {s : ByteArray} {x y : Led} {kd pl : Nat} (h : SrcAt w p g s 0 s.size 0) (hl : LedAt w g x) (hk : KindBadY p g s x y kd pl) (hkd : kd ≠ 0) :
    Calls Tryz.prog 34 #[.pointer (some ⟨p, 0, none⟩)] w fun e w' => e = .returned (.tuple #[.agg #[.int .i64 0, .int .i64 0, .int .i64 0, .int .i64 0, .int .i64 0], .agg #[.int .i64 (kd : Int), .int .i64 3, .int .i64 (pl : Int)]]) ∧ LedAt w' g y ∧ Turn [p, g] w w' := by
  have hpl := Blk.lt h
  have hgl := Blk.lt hl
  have S0 : SrcAt ((((w.alloc (.cells #[.int .i64 0, .int .i64 0, .int .i64 0, .int .i64 0, .int .i64 0] 61)).alloc (.cells #[.int .i64 0, .int .i64 0, .int .i64 0] 33)).alloc (.cells #[.int .i64 0, .int .i64 0, .int .i64 0, .int .i64 1, .int .i64 0] 61)).alloc (.cells #[.int .i64 0, .int .i64 0, .int .i64 0] 33)) p g s 0 s.size 0 := (((Blk.alloc h _).alloc _).alloc _).alloc _
  have L0 : LedAt ((((w.alloc (.cells #[.int .i64 0, .int .i64 0, .int .i64 0, .int .i64 0, .int .i64 0] 61)).alloc (.cells #[.int .i64 0, .int .i64 0, .int .i64 0] 33)).alloc (.cells #[.int .i64 0, .int .i64 0, .int .i64 0, .int .i64 1, .int .i64 0] 61)).alloc (.cells #[.int .i64 0, .int .i64 0, .int .i64 0] 33)) g x := (((Blk.alloc hl _).alloc _).alloc _).alloc _
  have B0 : Box4 ((((w.alloc (.cells #[.int .i64 0, .int .i64 0, .int .i64 0, .int .i64 0, .int .i64 0] 61)).alloc (.cells #[.int .i64 0, .int .i64 0, .int .i64 0] 33)).alloc (.cells #[.int .i64 0, .int .i64 0, .int .i64 0, .int .i64 1, .int .i64 0] 61)).alloc (.cells #[.int .i64 0, .int .i64 0, .int .i64 0] 33)) w.heap.size 0 0 0 1 0 0 0 0 := ⟨(((Blk.new _ _ _).alloc _).alloc _).alloc _, ((Blk.new_at _ _ _ (by simp)).alloc _).alloc _, (Blk.new_at _ _ _ (by simp)).alloc _, Blk.new_at _ _ _ (by simp)⟩
  have T0' : Turn [p, g] w ((((w.alloc (.cells #[.int .i64 0, .int .i64 0, .int .i64 0, .int .i64 0, .int .i64 0] 61)).alloc (.cells #[.int .i64 0, .int .i64 0, .int .i64 0] 33)).alloc (.cells #[.int .i64 0, .int .i64 0, .int .i64 0, .int .i64 1, .int .i64 0] 61)).alloc (.cells #[.int .i64 0, .int .i64 0, .int .i64 0] 33)) := ((((Turn.refl _ _).alloc _).alloc _).alloc _).alloc _
  have HK := Lib.hid (hk _ S0 L0)
  have hki : ¬ (kd : Int) = 0 := by omega
  clear h hl hk S0 L0
  go_enter Tryz.func34, Tryz.ntmps34
  go_wp2_with (go_at_call 48; refine HK.out.mono ?_; rintro e w1 ⟨rfl, l1, t1⟩; have b1 := B0.turn t1 hpl hgl; have r0 : (w1).cell? ⟨w.heap.size, 0, none⟩ = some (.int .i64 0) := Blk.cell b1.r 0; have r1 : (w1).cell? ⟨w.heap.size, 1, none⟩ = some (.int .i64 0) := Blk.cell b1.r 1; have r2 : (w1).cell? ⟨w.heap.size, 2, none⟩ = some (.int .i64 0) := Blk.cell b1.r 2; have r3 : (w1).cell? ⟨w.heap.size, 3, none⟩ = some (.int .i64 0) := Blk.cell b1.r 3; have r4 : (w1).cell? ⟨w.heap.size, 4, none⟩ = some (.int .i64 0) := Blk.cell b1.r 4; have h0 : (w1).cell? ⟨w.heap.size + 2, 0, none⟩ = some (.int .i64 0) := Blk.cell b1.h 0; have h1 : (w1).cell? ⟨w.heap.size + 2, 1, none⟩ = some (.int .i64 0) := Blk.cell b1.h 1; have h2 : (w1).cell? ⟨w.heap.size + 2, 2, none⟩ = some (.int .i64 0) := Blk.cell b1.h 2; have h3 : (w1).cell? ⟨w.heap.size + 2, 3, none⟩ = some (.int .i64 1) := Blk.cell b1.h 3; have h4 : (w1).cell? ⟨w.heap.size + 2, 4, none⟩ = some (.int .i64 0) := Blk.cell b1.h 4; have e0 := FL.c0 b1.e; have e1 := FL.c1 b1.e; have e2 := FL.c2 b1.e; have f0 := FL.c0 b1.f; have f1 := FL.c1 b1.f; have f2 := FL.c2 b1.f; have zr0 := Blk.frozen b1.r 0; have zr1 := Blk.frozen b1.r 1; have zr2 := Blk.frozen b1.r 2; have zr3 := Blk.frozen b1.r 3; have zr4 := Blk.frozen b1.r 4; have zh0 := Blk.frozen b1.h 0; have zh1 := Blk.frozen b1.h 1; have zh2 := Blk.frozen b1.h 2; have zh3 := Blk.frozen b1.h 3; have zh4 := Blk.frozen b1.h 4; have ze0 := Blk.frozen b1.e 0; have ze1 := Blk.frozen b1.e 1; have ze2 := Blk.frozen b1.e 2; have zf0 := Blk.frozen b1.f 0; have zf1 := Blk.frozen b1.f 1; have zf2 := Blk.frozen b1.f 2; have lt3 := Blk.lt b1.f)
  have b2 : Box4 (stW w1 w.heap.size 0 0 (kd : Int) 3 (pl : Int)) w.heap.size 0 0 0 1 0 (kd : Int) 3 (pl : Int) := b1.stage 0 (kd : Int) 3 (pl : Int) 0 0 0 1 0 (by simp [hd])
  have t2 : Turn [p, g] w (stW w1 w.heap.size 0 0 (kd : Int) 3 (pl : Int)) := (T0'.trans t1).stage 0 (kd : Int) 3 (pl : Int) (Nat.le_refl _)
  have l2 : LedAt (stW w1 w.heap.size 0 0 (kd : Int) 3 (pl : Int)) g y := l1.stage 0 (kd : Int) 3 (pl : Int) hgl
  change Code.wp _ _ _ _ (stW w1 w.heap.size 0 0 (kd : Int) 3 (pl : Int))
  generalize (stW w1 w.heap.size 0 0 (kd : Int) 3 (pl : Int)) = wv at b2 t2 l2 ⊢
  clear r0 r1 r2 r3 r4 h0 h1 h2 h3 h4 e0 e1 e2 f0 f1 f2 zr0 zr1 zr2 zr3 zr4 zh0 zh1 zh2 zh3 zh4 ze0 ze1 ze2 zf0 zf1 zf2 lt3
  have r0 : (wv).cell? ⟨w.heap.size, 0, none⟩ = some (.int .i64 0) := Blk.cell b2.r 0
  have r1 : (wv).cell? ⟨w.heap.size, 1, none⟩ = some (.int .i64 0) := Blk.cell b2.r 1
  have r2 : (wv).cell? ⟨w.heap.size, 2, none⟩ = some (.int .i64 0) := Blk.cell b2.r 2
  have r3 : (wv).cell? ⟨w.heap.size, 3, none⟩ = some (.int .i64 0) := Blk.cell b2.r 3
  have r4 : (wv).cell? ⟨w.heap.size, 4, none⟩ = some (.int .i64 0) := Blk.cell b2.r 4
  have h0 : (wv).cell? ⟨w.heap.size + 2, 0, none⟩ = some (.int .i64 0) := Blk.cell b2.h 0
  have h1 : (wv).cell? ⟨w.heap.size + 2, 1, none⟩ = some (.int .i64 0) := Blk.cell b2.h 1
  have h2 : (wv).cell? ⟨w.heap.size + 2, 2, none⟩ = some (.int .i64 0) := Blk.cell b2.h 2
  have h3 : (wv).cell? ⟨w.heap.size + 2, 3, none⟩ = some (.int .i64 1) := Blk.cell b2.h 3
  have h4 : (wv).cell? ⟨w.heap.size + 2, 4, none⟩ = some (.int .i64 0) := Blk.cell b2.h 4
  have e0 := FL.c0 b2.e
  have e1 := FL.c1 b2.e
  have e2 := FL.c2 b2.e
  have f0 := FL.c0 b2.f
  have f1 := FL.c1 b2.f
  have f2 := FL.c2 b2.f
  have zr0 := Blk.frozen b2.r 0
  have zr1 := Blk.frozen b2.r 1
  have zr2 := Blk.frozen b2.r 2
  have zr3 := Blk.frozen b2.r 3
  have zr4 := Blk.frozen b2.r 4
  have zh0 := Blk.frozen b2.h 0
  have zh1 := Blk.frozen b2.h 1
  have zh2 := Blk.frozen b2.h 2
  have zh3 := Blk.frozen b2.h 3
  have zh4 := Blk.frozen b2.h 4
  have ze0 := Blk.frozen b2.e 0
  have ze1 := Blk.frozen b2.e 1
  have ze2 := Blk.frozen b2.e 2
  have zf0 := Blk.frozen b2.f 0
  have zf1 := Blk.frozen b2.f 1
  have zf2 := Blk.frozen b2.f 2
  have lt3 := Blk.lt b2.f
  go_region
  all_goals go_wp2_with fail
  have fz := Box4.fin b2 0 0 0 0 0 (kd : Int) 3 (pl : Int)
  have tz := Turn.fin (n := w.heap.size) t2 0 0 0 0 0 (kd : Int) 3 (pl : Int) (Nat.le_refl _)
  have lz := LedAt.fin (n := w.heap.size) l2 0 0 0 0 0 (kd : Int) 3 (pl : Int) hgl
  have rz : Blk (fiW wv w.heap.size (0 : Int) (0 : Int) (0 : Int) (0 : Int) (0 : Int) (kd : Int) (3 : Int) (pl : Int)).drew w.heap.size 61 (hd 0 0 0 0 0) := Blk.drew fz.r
  have ez : FL (fiW wv w.heap.size (0 : Int) (0 : Int) (0 : Int) (0 : Int) (0 : Int) (kd : Int) (3 : Int) (pl : Int)).drew (w.heap.size + 1) (kd : Int) 3 (pl : Int) := Blk.drew fz.e
  replace tz := Turn.drew tz
  replace lz := Blk.drew lz
  change bodyPost _ _ _ _ _ ((fiW wv w.heap.size (0 : Int) (0 : Int) (0 : Int) (0 : Int) (0 : Int) (kd : Int) (3 : Int) (pl : Int)).drew)
  generalize (fiW wv w.heap.size (0 : Int) (0 : Int) (0 : Int) (0 : Int) (0 : Int) (kd : Int) (3 : Int) (pl : Int)).drew = we at rz ez tz lz ⊢
  have q0 : we.cell? ⟨w.heap.size, 0, none⟩ = some (.int .i64 0) := Blk.cell rz 0
  have q1 : we.cell? ⟨w.heap.size, 1, none⟩ = some (.int .i64 0) := Blk.cell rz 1
  have q2 : we.cell? ⟨w.heap.size, 2, none⟩ = some (.int .i64 0) := Blk.cell rz 2
  have q3 : we.cell? ⟨w.heap.size, 3, none⟩ = some (.int .i64 0) := Blk.cell rz 3
  have q4 : we.cell? ⟨w.heap.size, 4, none⟩ = some (.int .i64 0) := Blk.cell rz 4
  have g0 := FL.c0 ez
  have g1 := FL.c1 ez
  have g2 := FL.c2 ez
  exact bodyPost_ret (v := .tuple #[.agg #[.int .i64 0, .int .i64 0, .int .i64 0, .int .i64 0, .int .i64 0], .agg #[.int .i64 (kd : Int), .int .i64 3, .int .i64 (pl : Int)]]) (by simp [results, Tryz.results34, go_sem, q0, q1, q2, q3, q4, g0, g1, g2]) rfl ⟨rfl, lz, tz⟩

set_option maxRecDepth 100000 in
set_option maxHeartbeats 2000000 in
theorem rdBad1 {w : World} {p g : Nat} {s : ByteArray} {x y y0 y1 y2 y3 : Led} {K kd pl : Nat} (h : SrcAt w p g s 0 s.size 0) (hl : LedAt w g x) (hk : KindOkY p g s x y0 K) (hn : NumBadY p g s y0 y 2 16384 3 kd pl) (hkd : kd ≠ 0) :
    Calls Tryz.prog 34 #[.pointer (some ⟨p, 0, none⟩)] w fun e w' => e = .returned (.tuple #[.agg #[.int .i64 0, .int .i64 0, .int .i64 0, .int .i64 0, .int .i64 0], .agg #[.int .i64 (kd : Int), .int .i64 3, .int .i64 (pl : Int)]]) ∧ LedAt w' g y ∧ Turn [p, g] w w' := by
  have hpl := Blk.lt h
  have hgl := Blk.lt hl
  have S0 : SrcAt ((((w.alloc (.cells #[.int .i64 0, .int .i64 0, .int .i64 0, .int .i64 0, .int .i64 0] 61)).alloc (.cells #[.int .i64 0, .int .i64 0, .int .i64 0] 33)).alloc (.cells #[.int .i64 0, .int .i64 0, .int .i64 0, .int .i64 1, .int .i64 0] 61)).alloc (.cells #[.int .i64 0, .int .i64 0, .int .i64 0] 33)) p g s 0 s.size 0 := (((Blk.alloc h _).alloc _).alloc _).alloc _
  have L0 : LedAt ((((w.alloc (.cells #[.int .i64 0, .int .i64 0, .int .i64 0, .int .i64 0, .int .i64 0] 61)).alloc (.cells #[.int .i64 0, .int .i64 0, .int .i64 0] 33)).alloc (.cells #[.int .i64 0, .int .i64 0, .int .i64 0, .int .i64 1, .int .i64 0] 61)).alloc (.cells #[.int .i64 0, .int .i64 0, .int .i64 0] 33)) g x := (((Blk.alloc hl _).alloc _).alloc _).alloc _
  have B0 : Box4 ((((w.alloc (.cells #[.int .i64 0, .int .i64 0, .int .i64 0, .int .i64 0, .int .i64 0] 61)).alloc (.cells #[.int .i64 0, .int .i64 0, .int .i64 0] 33)).alloc (.cells #[.int .i64 0, .int .i64 0, .int .i64 0, .int .i64 1, .int .i64 0] 61)).alloc (.cells #[.int .i64 0, .int .i64 0, .int .i64 0] 33)) w.heap.size 0 0 0 1 0 0 0 0 := ⟨(((Blk.new _ _ _).alloc _).alloc _).alloc _, ((Blk.new_at _ _ _ (by simp)).alloc _).alloc _, (Blk.new_at _ _ _ (by simp)).alloc _, Blk.new_at _ _ _ (by simp)⟩
  have T0' : Turn [p, g] w ((((w.alloc (.cells #[.int .i64 0, .int .i64 0, .int .i64 0, .int .i64 0, .int .i64 0] 61)).alloc (.cells #[.int .i64 0, .int .i64 0, .int .i64 0] 33)).alloc (.cells #[.int .i64 0, .int .i64 0, .int .i64 0, .int .i64 1, .int .i64 0] 61)).alloc (.cells #[.int .i64 0, .int .i64 0, .int .i64 0] 33)) := ((((Turn.refl _ _).alloc _).alloc _).alloc _).alloc _
  have HN1 := Lib.hid hn
  have HK := Lib.hid (hk _ S0 L0)
  clear h hl hk S0 L0 hn
  go_enter Tryz.func34, Tryz.ntmps34
  go_wp2_with (go_at_call 48; refine HK.out.mono ?_; rintro e w1 ⟨rfl, s1, l1, t1⟩; have b1 := B0.turn t1 hpl hgl; have r0 : (w1).cell? ⟨w.heap.size, 0, none⟩ = some (.int .i64 0) := Blk.cell b1.r 0; have r1 : (w1).cell? ⟨w.heap.size, 1, none⟩ = some (.int .i64 0) := Blk.cell b1.r 1; have r2 : (w1).cell? ⟨w.heap.size, 2, none⟩ = some (.int .i64 0) := Blk.cell b1.r 2; have r3 : (w1).cell? ⟨w.heap.size, 3, none⟩ = some (.int .i64 0) := Blk.cell b1.r 3; have r4 : (w1).cell? ⟨w.heap.size, 4, none⟩ = some (.int .i64 0) := Blk.cell b1.r 4; have h0 : (w1).cell? ⟨w.heap.size + 2, 0, none⟩ = some (.int .i64 0) := Blk.cell b1.h 0; have h1 : (w1).cell? ⟨w.heap.size + 2, 1, none⟩ = some (.int .i64 0) := Blk.cell b1.h 1; have h2 : (w1).cell? ⟨w.heap.size + 2, 2, none⟩ = some (.int .i64 0) := Blk.cell b1.h 2; have h3 : (w1).cell? ⟨w.heap.size + 2, 3, none⟩ = some (.int .i64 1) := Blk.cell b1.h 3; have h4 : (w1).cell? ⟨w.heap.size + 2, 4, none⟩ = some (.int .i64 0) := Blk.cell b1.h 4; have e0 := FL.c0 b1.e; have e1 := FL.c1 b1.e; have e2 := FL.c2 b1.e; have f0 := FL.c0 b1.f; have f1 := FL.c1 b1.f; have f2 := FL.c2 b1.f; have zr0 := Blk.frozen b1.r 0; have zr1 := Blk.frozen b1.r 1; have zr2 := Blk.frozen b1.r 2; have zr3 := Blk.frozen b1.r 3; have zr4 := Blk.frozen b1.r 4; have zh0 := Blk.frozen b1.h 0; have zh1 := Blk.frozen b1.h 1; have zh2 := Blk.frozen b1.h 2; have zh3 := Blk.frozen b1.h 3; have zh4 := Blk.frozen b1.h 4; have ze0 := Blk.frozen b1.e 0; have ze1 := Blk.frozen b1.e 1; have ze2 := Blk.frozen b1.e 2; have zf0 := Blk.frozen b1.f 0; have zf1 := Blk.frozen b1.f 1; have zf2 := Blk.frozen b1.f 2; have lt3 := Blk.lt b1.f)
  have b2 : Box4 (stW w1 w.heap.size 0 (K : Int) 0 0 0) w.heap.size (K : Int) 0 0 1 0 0 0 0 := b1.stage (K : Int) 0 0 0 (K : Int) 0 0 1 0 (by simp [hd])
  have t2 : Turn [p, g] w (stW w1 w.heap.size 0 (K : Int) 0 0 0) := (T0'.trans t1).stage (K : Int) 0 0 0 (Nat.le_refl _)
  have s2 : SrcAt (stW w1 w.heap.size 0 (K : Int) 0 0 0) p g s 0 s.size 2 := s1.stage (K : Int) 0 0 0 hpl
  have l2 : LedAt (stW w1 w.heap.size 0 (K : Int) 0 0 0) g y0 := l1.stage (K : Int) 0 0 0 hgl
  change Code.wp _ _ _ _ (stW w1 w.heap.size 0 (K : Int) 0 0 0)
  generalize (stW w1 w.heap.size 0 (K : Int) 0 0 0) = wv at b2 t2 s2 l2 ⊢
  clear r0 r1 r2 r3 r4 h0 h1 h2 h3 h4 e0 e1 e2 f0 f1 f2 zr0 zr1 zr2 zr3 zr4 zh0 zh1 zh2 zh3 zh4 ze0 ze1 ze2 zf0 zf1 zf2 lt3 b1 t1 s1 l1
  obtain ⟨ix0, ix1⟩ := idxP2 (.pointer (some ⟨w.heap.size + 1 + 1, 1, none⟩)) (.pointer (some ⟨w.heap.size + 1 + 1, 2, none⟩))
  have B2 := Lib.hid b2
  have T2 := Lib.hid t2
  have S2 := Lib.hid s2
  have L2 := Lib.hid l2
  clear b2 t2 s2 l2
  have hki : ¬ (kd : Int) = 0 := by omega
  go_loopg [23] 1 (fun k j wr => j = .int .i64 0 ∧ wv = wr)
  case atStart => exact ⟨rfl, rfl⟩
  case round =>
    obtain ⟨rfl, rfl⟩ := hrel
    have bb := B2.out
    have r0 : (wv).cell? ⟨w.heap.size, 0, none⟩ = some (.int .i64 0) := Blk.cell bb.r 0
    have r1 : (wv).cell? ⟨w.heap.size, 1, none⟩ = some (.int .i64 0) := Blk.cell bb.r 1
    have r2 : (wv).cell? ⟨w.heap.size, 2, none⟩ = some (.int .i64 0) := Blk.cell bb.r 2
    have r3 : (wv).cell? ⟨w.heap.size, 3, none⟩ = some (.int .i64 0) := Blk.cell bb.r 3
    have r4 : (wv).cell? ⟨w.heap.size, 4, none⟩ = some (.int .i64 0) := Blk.cell bb.r 4
    have h0 : (wv).cell? ⟨w.heap.size + 2, 0, none⟩ = some (.int .i64 (K : Int)) := Blk.cell bb.h 0
    have h1 : (wv).cell? ⟨w.heap.size + 2, 1, none⟩ = some (.int .i64 0) := Blk.cell bb.h 1
    have h2 : (wv).cell? ⟨w.heap.size + 2, 2, none⟩ = some (.int .i64 0) := Blk.cell bb.h 2
    have h3 : (wv).cell? ⟨w.heap.size + 2, 3, none⟩ = some (.int .i64 1) := Blk.cell bb.h 3
    have h4 : (wv).cell? ⟨w.heap.size + 2, 4, none⟩ = some (.int .i64 0) := Blk.cell bb.h 4
    have e0 := FL.c0 bb.e
    have e1 := FL.c1 bb.e
    have e2 := FL.c2 bb.e
    have f0 := FL.c0 bb.f
    have f1 := FL.c1 bb.f
    have f2 := FL.c2 bb.f
    have zr0 := Blk.frozen bb.r 0
    have zr1 := Blk.frozen bb.r 1
    have zr2 := Blk.frozen bb.r 2
    have zr3 := Blk.frozen bb.r 3
    have zr4 := Blk.frozen bb.r 4
    have zh0 := Blk.frozen bb.h 0
    have zh1 := Blk.frozen bb.h 1
    have zh2 := Blk.frozen bb.h 2
    have zh3 := Blk.frozen bb.h 3
    have zh4 := Blk.frozen bb.h 4
    have ze0 := Blk.frozen bb.e 0
    have ze1 := Blk.frozen bb.e 1
    have ze2 := Blk.frozen bb.e 2
    have zf0 := Blk.frozen bb.f 0
    have zf1 := Blk.frozen bb.f 1
    have zf2 := Blk.frozen bb.f 2
    have lt3 := Blk.lt bb.f
    go_wp2_with (go_at_call 49; refine (HN1.out _ (by exact S2.out) (by exact L2.out)).mono ?_; rintro e w2 ⟨rfl, l3, t3⟩; have b3 := bb.turn t3 hpl hgl; clear bb; clear r0 r1 r2 r3 r4 h0 h1 h2 h3 h4 e0 e1 e2 f0 f1 f2 zr0 zr1 zr2 zr3 zr4 zh0 zh1 zh2 zh3 zh4 ze0 ze1 ze2 zf0 zf1 zf2 lt3; have r0 : (w2).cell? ⟨w.heap.size, 0, none⟩ = some (.int .i64 0) := Blk.cell b3.r 0; have r1 : (w2).cell? ⟨w.heap.size, 1, none⟩ = some (.int .i64 0) := Blk.cell b3.r 1; have r2 : (w2).cell? ⟨w.heap.size, 2, none⟩ = some (.int .i64 0) := Blk.cell b3.r 2; have r3 : (w2).cell? ⟨w.heap.size, 3, none⟩ = some (.int .i64 0) := Blk.cell b3.r 3; have r4 : (w2).cell? ⟨w.heap.size, 4, none⟩ = some (.int .i64 0) := Blk.cell b3.r 4; have h0 : (w2).cell? ⟨w.heap.size + 2, 0, none⟩ = some (.int .i64 (K : Int)) := Blk.cell b3.h 0; have h1 : (w2).cell? ⟨w.heap.size + 2, 1, none⟩ = some (.int .i64 0) := Blk.cell b3.h 1; have h2 : (w2).cell? ⟨w.heap.size + 2, 2, none⟩ = some (.int .i64 0) := Blk.cell b3.h 2; have h3 : (w2).cell? ⟨w.heap.size + 2, 3, none⟩ = some (.int .i64 1) := Blk.cell b3.h 3; have h4 : (w2).cell? ⟨w.heap.size + 2, 4, none⟩ = some (.int .i64 0) := Blk.cell b3.h 4; have e0 := FL.c0 b3.e; have e1 := FL.c1 b3.e; have e2 := FL.c2 b3.e; have f0 := FL.c0 b3.f; have f1 := FL.c1 b3.f; have f2 := FL.c2 b3.f; have zr0 := Blk.frozen b3.r 0; have zr1 := Blk.frozen b3.r 1; have zr2 := Blk.frozen b3.r 2; have zr3 := Blk.frozen b3.r 3; have zr4 := Blk.frozen b3.r 4; have zh0 := Blk.frozen b3.h 0; have zh1 := Blk.frozen b3.h 1; have zh2 := Blk.frozen b3.h 2; have zh3 := Blk.frozen b3.h 3; have zh4 := Blk.frozen b3.h 4; have ze0 := Blk.frozen b3.e 0; have ze1 := Blk.frozen b3.e 1; have ze2 := Blk.frozen b3.e 2; have zf0 := Blk.frozen b3.f 0; have zf1 := Blk.frozen b3.f 1; have zf2 := Blk.frozen b3.f 2; have lt3 := Blk.lt b3.f)
    have b4 : Box4 (stW w2 w.heap.size 1 0 (kd : Int) 3 (pl : Int)) w.heap.size (K : Int) 0 0 1 0 (kd : Int) 3 (pl : Int) := b3.stage 0 (kd : Int) 3 (pl : Int) (K : Int) 0 0 1 0 (by simp [hd])
    have t4 : Turn [p, g] w (stW w2 w.heap.size 1 0 (kd : Int) 3 (pl : Int)) := (T2.out.trans t3).stage 0 (kd : Int) 3 (pl : Int) (Nat.le_refl _)
    have l4 : LedAt (stW w2 w.heap.size 1 0 (kd : Int) 3 (pl : Int)) g y := l3.stage 0 (kd : Int) 3 (pl : Int) hgl
    change Code.wp _ _ _ _ (stW w2 w.heap.size 1 0 (kd : Int) 3 (pl : Int))
    generalize (stW w2 w.heap.size 1 0 (kd : Int) 3 (pl : Int)) = wv at b4 t4 l4 ⊢
    clear r0 r1 r2 r3 r4 h0 h1 h2 h3 h4 e0 e1 e2 f0 f1 f2 zr0 zr1 zr2 zr3 zr4 zh0 zh1 zh2 zh3 zh4 ze0 ze1 ze2 zf0 zf1 zf2 lt3
    have r0 : (wv).cell? ⟨w.heap.size, 0, none⟩ = some (.int .i64 0) := Blk.cell b4.r 0
    have r1 : (wv).cell? ⟨w.heap.size, 1, none⟩ = some (.int .i64 0) := Blk.cell b4.r 1
    have r2 : (wv).cell? ⟨w.heap.size, 2, none⟩ = some (.int .i64 0) := Blk.cell b4.r 2
    have r3 : (wv).cell? ⟨w.heap.size, 3, none⟩ = some (.int .i64 0) := Blk.cell b4.r 3
    have r4 : (wv).cell? ⟨w.heap.size, 4, none⟩ = some (.int .i64 0) := Blk.cell b4.r 4
    have h0 : (wv).cell? ⟨w.heap.size + 2, 0, none⟩ = some (.int .i64 (K : Int)) := Blk.cell b4.h 0
    have h1 : (wv).cell? ⟨w.heap.size + 2, 1, none⟩ = some (.int .i64 0) := Blk.cell b4.h 1
    have h2 : (wv).cell? ⟨w.heap.size + 2, 2, none⟩ = some (.int .i64 0) := Blk.cell b4.h 2
    have h3 : (wv).cell? ⟨w.heap.size + 2, 3, none⟩ = some (.int .i64 1) := Blk.cell b4.h 3
    have h4 : (wv).cell? ⟨w.heap.size + 2, 4, none⟩ = some (.int .i64 0) := Blk.cell b4.h 4
    have e0 := FL.c0 b4.e
    have e1 := FL.c1 b4.e
    have e2 := FL.c2 b4.e
    have f0 := FL.c0 b4.f
    have f1 := FL.c1 b4.f
    have f2 := FL.c2 b4.f
    have zr0 := Blk.frozen b4.r 0
    have zr1 := Blk.frozen b4.r 1
    have zr2 := Blk.frozen b4.r 2
    have zr3 := Blk.frozen b4.r 3
    have zr4 := Blk.frozen b4.r 4
    have zh0 := Blk.frozen b4.h 0
    have zh1 := Blk.frozen b4.h 1
    have zh2 := Blk.frozen b4.h 2
    have zh3 := Blk.frozen b4.h 3
    have zh4 := Blk.frozen b4.h 4
    have ze0 := Blk.frozen b4.e 0
    have ze1 := Blk.frozen b4.e 1
    have ze2 := Blk.frozen b4.e 2
    have zf0 := Blk.frozen b4.f 0
    have zf1 := Blk.frozen b4.f 1
    have zf2 := Blk.frozen b4.f 2
    have lt3 := Blk.lt b4.f
    go_region
    all_goals go_wp2_with fail
    have fz := Box4.fin b4 0 0 0 0 0 (kd : Int) 3 (pl : Int)
    have tz := Turn.fin (n := w.heap.size) t4 0 0 0 0 0 (kd : Int) 3 (pl : Int) (Nat.le_refl _)
    have lz := LedAt.fin (n := w.heap.size) l4 0 0 0 0 0 (kd : Int) 3 (pl : Int) hgl
    have rz : Blk (fiW wv w.heap.size (0 : Int) (0 : Int) (0 : Int) (0 : Int) (0 : Int) (kd : Int) (3 : Int) (pl : Int)).drew w.heap.size 61 (hd 0 0 0 0 0) := Blk.drew fz.r
    have ez : FL (fiW wv w.heap.size (0 : Int) (0 : Int) (0 : Int) (0 : Int) (0 : Int) (kd : Int) (3 : Int) (pl : Int)).drew (w.heap.size + 1) (kd : Int) 3 (pl : Int) := Blk.drew fz.e
    replace tz := Turn.drew tz
    replace lz := Blk.drew lz
    change bodyPost _ _ _ _ _ ((fiW wv w.heap.size (0 : Int) (0 : Int) (0 : Int) (0 : Int) (0 : Int) (kd : Int) (3 : Int) (pl : Int)).drew)
    generalize (fiW wv w.heap.size (0 : Int) (0 : Int) (0 : Int) (0 : Int) (0 : Int) (kd : Int) (3 : Int) (pl : Int)).drew = we at rz ez tz lz ⊢
    have q0 : we.cell? ⟨w.heap.size, 0, none⟩ = some (.int .i64 0) := Blk.cell rz 0
    have q1 : we.cell? ⟨w.heap.size, 1, none⟩ = some (.int .i64 0) := Blk.cell rz 1
    have q2 : we.cell? ⟨w.heap.size, 2, none⟩ = some (.int .i64 0) := Blk.cell rz 2
    have q3 : we.cell? ⟨w.heap.size, 3, none⟩ = some (.int .i64 0) := Blk.cell rz 3
    have q4 : we.cell? ⟨w.heap.size, 4, none⟩ = some (.int .i64 0) := Blk.cell rz 4
    have g0 := FL.c0 ez
    have g1 := FL.c1 ez
    have g2 := FL.c2 ez
    exact bodyPost_ret (v := .tuple #[.agg #[.int .i64 0, .int .i64 0, .int .i64 0, .int .i64 0, .int .i64 0], .agg #[.int .i64 (kd : Int), .int .i64 3, .int .i64 (pl : Int)]]) (by simp [results, Tryz.results34, go_sem, q0, q1, q2, q3, q4, g0, g1, g2]) rfl ⟨rfl, lz, tz⟩

set_option maxRecDepth 100000 in
set_option maxHeartbeats 2000000 in
theorem rdBad2 {w : World} {p g : Nat} {s : ByteArray} {x y y0 y1 y2 y3 : Led} {K W n1 kd pl : Nat} (h : SrcAt w p g s 0 s.size 0) (hl : LedAt w g x) (hk : KindOkY p g s x y0 K) (hn1 : NumOkY p g s y0 y1 2 16384 3 W n1) (hn : NumBadY p g s y1 y n1 16384 3 kd pl) (hkd : kd ≠ 0) :
    Calls Tryz.prog 34 #[.pointer (some ⟨p, 0, none⟩)] w fun e w' => e = .returned (.tuple #[.agg #[.int .i64 0, .int .i64 0, .int .i64 0, .int .i64 0, .int .i64 0], .agg #[.int .i64 (kd : Int), .int .i64 3, .int .i64 (pl : Int)]]) ∧ LedAt w' g y ∧ Turn [p, g] w w' := by
  have hpl := Blk.lt h
  have hgl := Blk.lt hl
  have S0 : SrcAt ((((w.alloc (.cells #[.int .i64 0, .int .i64 0, .int .i64 0, .int .i64 0, .int .i64 0] 61)).alloc (.cells #[.int .i64 0, .int .i64 0, .int .i64 0] 33)).alloc (.cells #[.int .i64 0, .int .i64 0, .int .i64 0, .int .i64 1, .int .i64 0] 61)).alloc (.cells #[.int .i64 0, .int .i64 0, .int .i64 0] 33)) p g s 0 s.size 0 := (((Blk.alloc h _).alloc _).alloc _).alloc _
  have L0 : LedAt ((((w.alloc (.cells #[.int .i64 0, .int .i64 0, .int .i64 0, .int .i64 0, .int .i64 0] 61)).alloc (.cells #[.int .i64 0, .int .i64 0, .int .i64 0] 33)).alloc (.cells #[.int .i64 0, .int .i64 0, .int .i64 0, .int .i64 1, .int .i64 0] 61)).alloc (.cells #[.int .i64 0, .int .i64 0, .int .i64 0] 33)) g x := (((Blk.alloc hl _).alloc _).alloc _).alloc _
  have B0 : Box4 ((((w.alloc (.cells #[.int .i64 0, .int .i64 0, .int .i64 0, .int .i64 0, .int .i64 0] 61)).alloc (.cells #[.int .i64 0, .int .i64 0, .int .i64 0] 33)).alloc (.cells #[.int .i64 0, .int .i64 0, .int .i64 0, .int .i64 1, .int .i64 0] 61)).alloc (.cells #[.int .i64 0, .int .i64 0, .int .i64 0] 33)) w.heap.size 0 0 0 1 0 0 0 0 := ⟨(((Blk.new _ _ _).alloc _).alloc _).alloc _, ((Blk.new_at _ _ _ (by simp)).alloc _).alloc _, (Blk.new_at _ _ _ (by simp)).alloc _, Blk.new_at _ _ _ (by simp)⟩
  have T0' : Turn [p, g] w ((((w.alloc (.cells #[.int .i64 0, .int .i64 0, .int .i64 0, .int .i64 0, .int .i64 0] 61)).alloc (.cells #[.int .i64 0, .int .i64 0, .int .i64 0] 33)).alloc (.cells #[.int .i64 0, .int .i64 0, .int .i64 0, .int .i64 1, .int .i64 0] 61)).alloc (.cells #[.int .i64 0, .int .i64 0, .int .i64 0] 33)) := ((((Turn.refl _ _).alloc _).alloc _).alloc _).alloc _
  have HN1 := Lib.hid hn1
  have HN2 := Lib.hid hn
  have HK := Lib.hid (hk _ S0 L0)
  clear h hl hk S0 L0 hn1 hn
  go_enter Tryz.func34, Tryz.ntmps34
  go_wp2_with (go_at_call 48; refine HK.out.mono ?_; rintro e w1 ⟨rfl, s1, l1, t1⟩; have b1 := B0.turn t1 hpl hgl; have r0 : (w1).cell? ⟨w.heap.size, 0, none⟩ = some (.int .i64 0) := Blk.cell b1.r 0; have r1 : (w1).cell? ⟨w.heap.size, 1, none⟩ = some (.int .i64 0) := Blk.cell b1.r 1; have r2 : (w1).cell? ⟨w.heap.size, 2, none⟩ = some (.int .i64 0) := Blk.cell b1.r 2; have r3 : (w1).cell? ⟨w.heap.size, 3, none⟩ = some (.int .i64 0) := Blk.cell b1.r 3; have r4 : (w1).cell? ⟨w.heap.size, 4, none⟩ = some (.int .i64 0) := Blk.cell b1.r 4; have h0 : (w1).cell? ⟨w.heap.size + 2, 0, none⟩ = some (.int .i64 0) := Blk.cell b1.h 0; have h1 : (w1).cell? ⟨w.heap.size + 2, 1, none⟩ = some (.int .i64 0) := Blk.cell b1.h 1; have h2 : (w1).cell? ⟨w.heap.size + 2, 2, none⟩ = some (.int .i64 0) := Blk.cell b1.h 2; have h3 : (w1).cell? ⟨w.heap.size + 2, 3, none⟩ = some (.int .i64 1) := Blk.cell b1.h 3; have h4 : (w1).cell? ⟨w.heap.size + 2, 4, none⟩ = some (.int .i64 0) := Blk.cell b1.h 4; have e0 := FL.c0 b1.e; have e1 := FL.c1 b1.e; have e2 := FL.c2 b1.e; have f0 := FL.c0 b1.f; have f1 := FL.c1 b1.f; have f2 := FL.c2 b1.f; have zr0 := Blk.frozen b1.r 0; have zr1 := Blk.frozen b1.r 1; have zr2 := Blk.frozen b1.r 2; have zr3 := Blk.frozen b1.r 3; have zr4 := Blk.frozen b1.r 4; have zh0 := Blk.frozen b1.h 0; have zh1 := Blk.frozen b1.h 1; have zh2 := Blk.frozen b1.h 2; have zh3 := Blk.frozen b1.h 3; have zh4 := Blk.frozen b1.h 4; have ze0 := Blk.frozen b1.e 0; have ze1 := Blk.frozen b1.e 1; have ze2 := Blk.frozen b1.e 2; have zf0 := Blk.frozen b1.f 0; have zf1 := Blk.frozen b1.f 1; have zf2 := Blk.frozen b1.f 2; have lt3 := Blk.lt b1.f)
  have b2 : Box4 (stW w1 w.heap.size 0 (K : Int) 0 0 0) w.heap.size (K : Int) 0 0 1 0 0 0 0 := b1.stage (K : Int) 0 0 0 (K : Int) 0 0 1 0 (by simp [hd])
  have t2 : Turn [p, g] w (stW w1 w.heap.size 0 (K : Int) 0 0 0) := (T0'.trans t1).stage (K : Int) 0 0 0 (Nat.le_refl _)
  have s2 : SrcAt (stW w1 w.heap.size 0 (K : Int) 0 0 0) p g s 0 s.size 2 := s1.stage (K : Int) 0 0 0 hpl
  have l2 : LedAt (stW w1 w.heap.size 0 (K : Int) 0 0 0) g y0 := l1.stage (K : Int) 0 0 0 hgl
  change Code.wp _ _ _ _ (stW w1 w.heap.size 0 (K : Int) 0 0 0)
  generalize (stW w1 w.heap.size 0 (K : Int) 0 0 0) = wv at b2 t2 s2 l2 ⊢
  clear r0 r1 r2 r3 r4 h0 h1 h2 h3 h4 e0 e1 e2 f0 f1 f2 zr0 zr1 zr2 zr3 zr4 zh0 zh1 zh2 zh3 zh4 ze0 ze1 ze2 zf0 zf1 zf2 lt3 b1 t1 s1 l1
  obtain ⟨ix0, ix1⟩ := idxP2 (.pointer (some ⟨w.heap.size + 1 + 1, 1, none⟩)) (.pointer (some ⟨w.heap.size + 1 + 1, 2, none⟩))
  have B2 := Lib.hid b2
  have T2 := Lib.hid t2
  have S2 := Lib.hid s2
  have L2 := Lib.hid l2
  clear b2 t2 s2 l2
  have hki : ¬ (kd : Int) = 0 := by omega
  go_loopg [23] 1 (fun k j wr => (k = 1 ∧ j = .int .i64 0 ∧ wv = wr) ∨ (k = 0 ∧ j = .int .i64 1 ∧ SrcAt wr p g s 0 s.size n1 ∧ LedAt wr g y1 ∧ Box4 wr w.heap.size (K : Int) (W : Int) 0 1 0 0 0 0 ∧ Turn [p, g] w wr))
  case atStart => exact .inl ⟨rfl, rfl, rfl⟩
  case round =>
    obtain ⟨rfl, rfl, rfl⟩ | ⟨rfl, rfl, hs3, hl3, hb3, ht3⟩ := hrel
    · skip
      have bb := B2.out
      have r0 : (wv).cell? ⟨w.heap.size, 0, none⟩ = some (.int .i64 0) := Blk.cell bb.r 0
      have r1 : (wv).cell? ⟨w.heap.size, 1, none⟩ = some (.int .i64 0) := Blk.cell bb.r 1
      have r2 : (wv).cell? ⟨w.heap.size, 2, none⟩ = some (.int .i64 0) := Blk.cell bb.r 2
      have r3 : (wv).cell? ⟨w.heap.size, 3, none⟩ = some (.int .i64 0) := Blk.cell bb.r 3
      have r4 : (wv).cell? ⟨w.heap.size, 4, none⟩ = some (.int .i64 0) := Blk.cell bb.r 4
      have h0 : (wv).cell? ⟨w.heap.size + 2, 0, none⟩ = some (.int .i64 (K : Int)) := Blk.cell bb.h 0
      have h1 : (wv).cell? ⟨w.heap.size + 2, 1, none⟩ = some (.int .i64 0) := Blk.cell bb.h 1
      have h2 : (wv).cell? ⟨w.heap.size + 2, 2, none⟩ = some (.int .i64 0) := Blk.cell bb.h 2
      have h3 : (wv).cell? ⟨w.heap.size + 2, 3, none⟩ = some (.int .i64 1) := Blk.cell bb.h 3
      have h4 : (wv).cell? ⟨w.heap.size + 2, 4, none⟩ = some (.int .i64 0) := Blk.cell bb.h 4
      have e0 := FL.c0 bb.e
      have e1 := FL.c1 bb.e
      have e2 := FL.c2 bb.e
      have f0 := FL.c0 bb.f
      have f1 := FL.c1 bb.f
      have f2 := FL.c2 bb.f
      have zr0 := Blk.frozen bb.r 0
      have zr1 := Blk.frozen bb.r 1
      have zr2 := Blk.frozen bb.r 2
      have zr3 := Blk.frozen bb.r 3
      have zr4 := Blk.frozen bb.r 4
      have zh0 := Blk.frozen bb.h 0
      have zh1 := Blk.frozen bb.h 1
      have zh2 := Blk.frozen bb.h 2
      have zh3 := Blk.frozen bb.h 3
      have zh4 := Blk.frozen bb.h 4
      have ze0 := Blk.frozen bb.e 0
      have ze1 := Blk.frozen bb.e 1
      have ze2 := Blk.frozen bb.e 2
      have zf0 := Blk.frozen bb.f 0
      have zf1 := Blk.frozen bb.f 1
      have zf2 := Blk.frozen bb.f 2
      have lt3 := Blk.lt bb.f
      go_wp2_with (go_at_call 49; refine (HN1.out _ (by exact S2.out) (by exact L2.out)).mono ?_; rintro e w2 ⟨rfl, s3, l3, t3⟩; have b3 := bb.turn t3 hpl hgl; clear bb; clear r0 r1 r2 r3 r4 h0 h1 h2 h3 h4 e0 e1 e2 f0 f1 f2 zr0 zr1 zr2 zr3 zr4 zh0 zh1 zh2 zh3 zh4 ze0 ze1 ze2 zf0 zf1 zf2 lt3; have r0 : (w2).cell? ⟨w.heap.size, 0, none⟩ = some (.int .i64 0) := Blk.cell b3.r 0; have r1 : (w2).cell? ⟨w.heap.size, 1, none⟩ = some (.int .i64 0) := Blk.cell b3.r 1; have r2 : (w2).cell? ⟨w.heap.size, 2, none⟩ = some (.int .i64 0) := Blk.cell b3.r 2; have r3 : (w2).cell? ⟨w.heap.size, 3, none⟩ = some (.int .i64 0) := Blk.cell b3.r 3; have r4 : (w2).cell? ⟨w.heap.size, 4, none⟩ = some (.int .i64 0) := Blk.cell b3.r 4; have h0 : (w2).cell? ⟨w.heap.size + 2, 0, none⟩ = some (.int .i64 (K : Int)) := Blk.cell b3.h 0; have h1 : (w2).cell? ⟨w.heap.size + 2, 1, none⟩ = some (.int .i64 0) := Blk.cell b3.h 1; have h2 : (w2).cell? ⟨w.heap.size + 2, 2, none⟩ = some (.int .i64 0) := Blk.cell b3.h 2; have h3 : (w2).cell? ⟨w.heap.size + 2, 3, none⟩ = some (.int .i64 1) := Blk.cell b3.h 3; have h4 : (w2).cell? ⟨w.heap.size + 2, 4, none⟩ = some (.int .i64 0) := Blk.cell b3.h 4; have e0 := FL.c0 b3.e; have e1 := FL.c1 b3.e; have e2 := FL.c2 b3.e; have f0 := FL.c0 b3.f; have f1 := FL.c1 b3.f; have f2 := FL.c2 b3.f; have zr0 := Blk.frozen b3.r 0; have zr1 := Blk.frozen b3.r 1; have zr2 := Blk.frozen b3.r 2; have zr3 := Blk.frozen b3.r 3; have zr4 := Blk.frozen b3.r 4; have zh0 := Blk.frozen b3.h 0; have zh1 := Blk.frozen b3.h 1; have zh2 := Blk.frozen b3.h 2; have zh3 := Blk.frozen b3.h 3; have zh4 := Blk.frozen b3.h 4; have ze0 := Blk.frozen b3.e 0; have ze1 := Blk.frozen b3.e 1; have ze2 := Blk.frozen b3.e 2; have zf0 := Blk.frozen b3.f 0; have zf1 := Blk.frozen b3.f 1; have zf2 := Blk.frozen b3.f 2; have lt3 := Blk.lt b3.f)
      have b4 : Box4 (stW w2 w.heap.size 1 (W : Int) 0 0 0) w.heap.size (K : Int) (W : Int) 0 1 0 0 0 0 := b3.stage (W : Int) 0 0 0 (K : Int) (W : Int) 0 1 0 (by simp [hd])
      have t4 : Turn [p, g] w (stW w2 w.heap.size 1 (W : Int) 0 0 0) := (T2.out.trans t3).stage (W : Int) 0 0 0 (Nat.le_refl _)
      have s4 : SrcAt (stW w2 w.heap.size 1 (W : Int) 0 0 0) p g s 0 s.size _ := s3.stage (W : Int) 0 0 0 hpl
      have l4 : LedAt (stW w2 w.heap.size 1 (W : Int) 0 0 0) g _ := l3.stage (W : Int) 0 0 0 hgl
      go_roundg 0
      case measure => decide
      case rel => exact .inr ⟨rfl, rfl, s4, l4, b4, t4⟩
    · skip
      have S3 := Lib.hid hs3
      have L3 := Lib.hid hl3
      have B3 := Lib.hid hb3
      have T3 := Lib.hid ht3
      clear hs3 hl3 hb3 ht3
      have bb := B3.out
      have r0 : (wr).cell? ⟨w.heap.size, 0, none⟩ = some (.int .i64 0) := Blk.cell bb.r 0
      have r1 : (wr).cell? ⟨w.heap.size, 1, none⟩ = some (.int .i64 0) := Blk.cell bb.r 1
      have r2 : (wr).cell? ⟨w.heap.size, 2, none⟩ = some (.int .i64 0) := Blk.cell bb.r 2
      have r3 : (wr).cell? ⟨w.heap.size, 3, none⟩ = some (.int .i64 0) := Blk.cell bb.r 3
      have r4 : (wr).cell? ⟨w.heap.size, 4, none⟩ = some (.int .i64 0) := Blk.cell bb.r 4
      have h0 : (wr).cell? ⟨w.heap.size + 2, 0, none⟩ = some (.int .i64 (K : Int)) := Blk.cell bb.h 0
      have h1 : (wr).cell? ⟨w.heap.size + 2, 1, none⟩ = some (.int .i64 (W : Int)) := Blk.cell bb.h 1
      have h2 : (wr).cell? ⟨w.heap.size + 2, 2, none⟩ = some (.int .i64 0) := Blk.cell bb.h 2
      have h3 : (wr).cell? ⟨w.heap.size + 2, 3, none⟩ = some (.int .i64 1) := Blk.cell bb.h 3
      have h4 : (wr).cell? ⟨w.heap.size + 2, 4, none⟩ = some (.int .i64 0) := Blk.cell bb.h 4
      have e0 := FL.c0 bb.e
      have e1 := FL.c1 bb.e
      have e2 := FL.c2 bb.e
      have f0 := FL.c0 bb.f
      have f1 := FL.c1 bb.f
      have f2 := FL.c2 bb.f
      have zr0 := Blk.frozen bb.r 0
      have zr1 := Blk.frozen bb.r 1
      have zr2 := Blk.frozen bb.r 2
      have zr3 := Blk.frozen bb.r 3
      have zr4 := Blk.frozen bb.r 4
      have zh0 := Blk.frozen bb.h 0
      have zh1 := Blk.frozen bb.h 1
      have zh2 := Blk.frozen bb.h 2
      have zh3 := Blk.frozen bb.h 3
      have zh4 := Blk.frozen bb.h 4
      have ze0 := Blk.frozen bb.e 0
      have ze1 := Blk.frozen bb.e 1
      have ze2 := Blk.frozen bb.e 2
      have zf0 := Blk.frozen bb.f 0
      have zf1 := Blk.frozen bb.f 1
      have zf2 := Blk.frozen bb.f 2
      have lt3 := Blk.lt bb.f
      go_wp2_with (go_at_call 49; refine (HN2.out _ (by exact S3.out) (by exact L3.out)).mono ?_; rintro e w2 ⟨rfl, l3, t3⟩; have b3 := bb.turn t3 hpl hgl; clear bb; clear r0 r1 r2 r3 r4 h0 h1 h2 h3 h4 e0 e1 e2 f0 f1 f2 zr0 zr1 zr2 zr3 zr4 zh0 zh1 zh2 zh3 zh4 ze0 ze1 ze2 zf0 zf1 zf2 lt3; have r0 : (w2).cell? ⟨w.heap.size, 0, none⟩ = some (.int .i64 0) := Blk.cell b3.r 0; have r1 : (w2).cell? ⟨w.heap.size, 1, none⟩ = some (.int .i64 0) := Blk.cell b3.r 1; have r2 : (w2).cell? ⟨w.heap.size, 2, none⟩ = some (.int .i64 0) := Blk.cell b3.r 2; have r3 : (w2).cell? ⟨w.heap.size, 3, none⟩ = some (.int .i64 0) := Blk.cell b3.r 3; have r4 : (w2).cell? ⟨w.heap.size, 4, none⟩ = some (.int .i64 0) := Blk.cell b3.r 4; have h0 : (w2).cell? ⟨w.heap.size + 2, 0, none⟩ = some (.int .i64 (K : Int)) := Blk.cell b3.h 0; have h1 : (w2).cell? ⟨w.heap.size + 2, 1, none⟩ = some (.int .i64 (W : Int)) := Blk.cell b3.h 1; have h2 : (w2).cell? ⟨w.heap.size + 2, 2, none⟩ = some (.int .i64 0) := Blk.cell b3.h 2; have h3 : (w2).cell? ⟨w.heap.size + 2, 3, none⟩ = some (.int .i64 1) := Blk.cell b3.h 3; have h4 : (w2).cell? ⟨w.heap.size + 2, 4, none⟩ = some (.int .i64 0) := Blk.cell b3.h 4; have e0 := FL.c0 b3.e; have e1 := FL.c1 b3.e; have e2 := FL.c2 b3.e; have f0 := FL.c0 b3.f; have f1 := FL.c1 b3.f; have f2 := FL.c2 b3.f; have zr0 := Blk.frozen b3.r 0; have zr1 := Blk.frozen b3.r 1; have zr2 := Blk.frozen b3.r 2; have zr3 := Blk.frozen b3.r 3; have zr4 := Blk.frozen b3.r 4; have zh0 := Blk.frozen b3.h 0; have zh1 := Blk.frozen b3.h 1; have zh2 := Blk.frozen b3.h 2; have zh3 := Blk.frozen b3.h 3; have zh4 := Blk.frozen b3.h 4; have ze0 := Blk.frozen b3.e 0; have ze1 := Blk.frozen b3.e 1; have ze2 := Blk.frozen b3.e 2; have zf0 := Blk.frozen b3.f 0; have zf1 := Blk.frozen b3.f 1; have zf2 := Blk.frozen b3.f 2; have lt3 := Blk.lt b3.f)
      have b4 : Box4 (stW w2 w.heap.size 2 0 (kd : Int) 3 (pl : Int)) w.heap.size (K : Int) (W : Int) 0 1 0 (kd : Int) 3 (pl : Int) := b3.stage 0 (kd : Int) 3 (pl : Int) (K : Int) (W : Int) 0 1 0 (by simp [hd])
      have t4 : Turn [p, g] w (stW w2 w.heap.size 2 0 (kd : Int) 3 (pl : Int)) := (T3.out.trans t3).stage 0 (kd : Int) 3 (pl : Int) (Nat.le_refl _)
      have l4 : LedAt (stW w2 w.heap.size 2 0 (kd : Int) 3 (pl : Int)) g y := l3.stage 0 (kd : Int) 3 (pl : Int) hgl
      change Code.wp _ _ _ _ (stW w2 w.heap.size 2 0 (kd : Int) 3 (pl : Int))
      generalize (stW w2 w.heap.size 2 0 (kd : Int) 3 (pl : Int)) = wv at b4 t4 l4 ⊢
      clear r0 r1 r2 r3 r4 h0 h1 h2 h3 h4 e0 e1 e2 f0 f1 f2 zr0 zr1 zr2 zr3 zr4 zh0 zh1 zh2 zh3 zh4 ze0 ze1 ze2 zf0 zf1 zf2 lt3
      have r0 : (wv).cell? ⟨w.heap.size, 0, none⟩ = some (.int .i64 0) := Blk.cell b4.r 0
      have r1 : (wv).cell? ⟨w.heap.size, 1, none⟩ = some (.int .i64 0) := Blk.cell b4.r 1
      have r2 : (wv).cell? ⟨w.heap.size, 2, none⟩ = some (.int .i64 0) := Blk.cell b4.r 2
      have r3 : (wv).cell? ⟨w.heap.size, 3, none⟩ = some (.int .i64 0) := Blk.cell b4.r 3
      have r4 : (wv).cell? ⟨w.heap.size, 4, none⟩ = some (.int .i64 0) := Blk.cell b4.r 4
      have h0 : (wv).cell? ⟨w.heap.size + 2, 0, none⟩ = some (.int .i64 (K : Int)) := Blk.cell b4.h 0
      have h1 : (wv).cell? ⟨w.heap.size + 2, 1, none⟩ = some (.int .i64 (W : Int)) := Blk.cell b4.h 1
      have h2 : (wv).cell? ⟨w.heap.size + 2, 2, none⟩ = some (.int .i64 0) := Blk.cell b4.h 2
      have h3 : (wv).cell? ⟨w.heap.size + 2, 3, none⟩ = some (.int .i64 1) := Blk.cell b4.h 3
      have h4 : (wv).cell? ⟨w.heap.size + 2, 4, none⟩ = some (.int .i64 0) := Blk.cell b4.h 4
      have e0 := FL.c0 b4.e
      have e1 := FL.c1 b4.e
      have e2 := FL.c2 b4.e
      have f0 := FL.c0 b4.f
      have f1 := FL.c1 b4.f
      have f2 := FL.c2 b4.f
      have zr0 := Blk.frozen b4.r 0
      have zr1 := Blk.frozen b4.r 1
      have zr2 := Blk.frozen b4.r 2
      have zr3 := Blk.frozen b4.r 3
      have zr4 := Blk.frozen b4.r 4
      have zh0 := Blk.frozen b4.h 0
      have zh1 := Blk.frozen b4.h 1
      have zh2 := Blk.frozen b4.h 2
      have zh3 := Blk.frozen b4.h 3
      have zh4 := Blk.frozen b4.h 4
      have ze0 := Blk.frozen b4.e 0
      have ze1 := Blk.frozen b4.e 1
      have ze2 := Blk.frozen b4.e 2
      have zf0 := Blk.frozen b4.f 0
      have zf1 := Blk.frozen b4.f 1
      have zf2 := Blk.frozen b4.f 2
      have lt3 := Blk.lt b4.f
      go_region
      all_goals go_wp2_with fail
      have fz := Box4.fin b4 0 0 0 0 0 (kd : Int) 3 (pl : Int)
      have tz := Turn.fin (n := w.heap.size) t4 0 0 0 0 0 (kd : Int) 3 (pl : Int) (Nat.le_refl _)
      have lz := LedAt.fin (n := w.heap.size) l4 0 0 0 0 0 (kd : Int) 3 (pl : Int) hgl
      have rz : Blk (fiW wv w.heap.size (0 : Int) (0 : Int) (0 : Int) (0 : Int) (0 : Int) (kd : Int) (3 : Int) (pl : Int)).drew w.heap.size 61 (hd 0 0 0 0 0) := Blk.drew fz.r
      have ez : FL (fiW wv w.heap.size (0 : Int) (0 : Int) (0 : Int) (0 : Int) (0 : Int) (kd : Int) (3 : Int) (pl : Int)).drew (w.heap.size + 1) (kd : Int) 3 (pl : Int) := Blk.drew fz.e
      replace tz := Turn.drew tz
      replace lz := Blk.drew lz
      change bodyPost _ _ _ _ _ ((fiW wv w.heap.size (0 : Int) (0 : Int) (0 : Int) (0 : Int) (0 : Int) (kd : Int) (3 : Int) (pl : Int)).drew)
      generalize (fiW wv w.heap.size (0 : Int) (0 : Int) (0 : Int) (0 : Int) (0 : Int) (kd : Int) (3 : Int) (pl : Int)).drew = we at rz ez tz lz ⊢
      have q0 : we.cell? ⟨w.heap.size, 0, none⟩ = some (.int .i64 0) := Blk.cell rz 0
      have q1 : we.cell? ⟨w.heap.size, 1, none⟩ = some (.int .i64 0) := Blk.cell rz 1
      have q2 : we.cell? ⟨w.heap.size, 2, none⟩ = some (.int .i64 0) := Blk.cell rz 2
      have q3 : we.cell? ⟨w.heap.size, 3, none⟩ = some (.int .i64 0) := Blk.cell rz 3
      have q4 : we.cell? ⟨w.heap.size, 4, none⟩ = some (.int .i64 0) := Blk.cell rz 4
      have g0 := FL.c0 ez
      have g1 := FL.c1 ez
      have g2 := FL.c2 ez
      exact bodyPost_ret (v := .tuple #[.agg #[.int .i64 0, .int .i64 0, .int .i64 0, .int .i64 0, .int .i64 0], .agg #[.int .i64 (kd : Int), .int .i64 3, .int .i64 (pl : Int)]]) (by simp [results, Tryz.results34, go_sem, q0, q1, q2, q3, q4, g0, g1, g2]) rfl ⟨rfl, lz, tz⟩
end Go.Proofs.YthljhebbblhakaaGreatDoor
