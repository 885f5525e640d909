/- pnmtext.Read: all pixels. -/
import Derived.Test.YthljhebbblhakaaGreatDoorEWords
import Derived.Test.YthljhebbblhakaaGreatDoorProg
import Derived.WalkKit
import Derived.WalkSpells
import Derived.WalkLawsBesides
import Derived.Lib.Hide
import Derived.Laws.OwnMore
import Derived.Deep.AppendLies
import Derived.Deep.Draws
import Derived.Deep.Onto
import Derived.Deep.AppendSrc
import Derived.Deep.QuietTactic
import Derived.BigQuiet
import Derived.Deep.LoopGhost
import Derived.Deep.CutBlock
import Derived.Deep.DeepCutAuto
import Derived.Deep.Light
import Derived.Deep.RegionWith
import Derived.Test.YthljhebbblhakaaGreatDoorESync
import Derived.Defers
import Derived.Laws.Pointers
import Derived.Laws.LoneSync
import Derived.Laws.NewBlocks
import Derived.RegionTactic
import Derived.RegionCalls
import Derived.ChangeAlike
import Derived.Laws.Rows
import Derived.StillTailTactics
import Derived.Test.YthljhebbblhakaaGreatDoorEBits
import Derived.Laws.BitsAllLaws
import Derived.Laws.BitsLemmas
import Derived.Test.YthljhebbblhakaaGreatDoorEPnmHead
import Derived.Test.YthljhebbblhakaaGreatDoorETok
import Derived.WalkMore
import Derived.ScopeJumps
import Derived.Test.YthljhebbblhakaaGreatDoorEPnmD
import Derived.Test.YthljhebbblhakaaGreatDoorETok2
import Derived.Test.YthljhebbblhakaaGreatDoorETok3
import Derived.Test.YthljhebbblhakaaGreatDoorETok4
import Derived.Test.YthljhebbblhakaaGreatDoorENum
import Derived.Test.YthljhebbblhakaaGreatDoorUPnmW
import Derived.Lib.Mul64
import Derived.Laws.Bits64b
import Derived.Deep.OwnRows
import Derived.Test.YthljhebbblhakaaGreatDoorEBuf
import Derived.Lib.BufferWrite
import Derived.Test.YthljhebbblhakaaGreatDoorERas
import Derived.Test.YthljhebbblhakaaGreatDoorEPnmW
import Derived.Test.YthljhebbblhakaaGreatDoorEPnmBst
import Derived.Test.YthljhebbblhakaaGreatDoorEOpenInts
import Derived.ProofKit
import Derived.OpenShut
import Derived.Deep.Slices
import Derived.Test.YthljhebbblhakaaGreatDoorEScaler
import Derived.Test.YthljhebbblhakaaGreatDoorEPnmDocs
import Derived.Test.YthljhebbblhakaaGreatDoorUPnmT
import Derived.Test.YthljhebbblhakaaGreatDoorEFfRef3
import Derived.Test.YthljhebbblhakaaGreatDoorUFfD
import Derived.Deep.RegionHeld3
import Derived.Test.YthljhebbblhakaaGreatDoorEPnmTr
import Derived.Test.YthljhebbblhakaaGreatDoorEPnmKind
import Derived.Test.YthljhebbblhakaaGreatDoorEPnmH
import Derived.Test.YthljhebbblhakaaGreatDoorEPnmStage
import Derived.Test.YthljhebbblhakaaGreatDoorEPnmR
import Derived.Test.YthljhebbblhakaaGreatDoorEPnmR2
import Derived.Test.YthljhebbblhakaaGreatDoorEPnmHd
namespace Go.Proofs.YthljhebbblhakaaGreatDoor
open Go.RowKit
set_option linter.unusedVariables false
set_option linter.unusedSimpArgs false

theorem tpixD_one {s : ByteArray} {K M z a : Nat} {k : Qc × Nat → Dec} (h : K = 1) : tpixD s K M z a k = bitD s a z k := by subst h; rfl
theorem tpixD_three {s : ByteArray} {K M z a : Nat} {k : Qc × Nat → Dec} (h : K = 3) : tpixD s K M z a k = colD s M z (fun t => k (col3 t.1, t.2)) 3 a [] := by subst h; rfl
theorem tpixD_two {s : ByteArray} {K M z a : Nat} {k : Qc × Nat → Dec} (h : K ≠ 1) (h3 : K ≠ 3) : tpixD s K M z a k = smpD s M a z fun r => k (grayQ r.1, r.2) := by unfold tpixD; rw [if_neg h, if_neg h3]
set_option maxRecDepth 100000 in
set_option maxHeartbeats 8000000 in
theorem txtRead_one {w : World} {p g r b d : Nat} {s : ByteArray} {h : HeadR} {y : Led} (hh : HeadOk s h) (hsm : s.size ≤ 1099511627776) (hK : h.K ≤ 3) (hk1 : h.K = 1) (S0 : SrcAt w p g s 0 s.size h.At) (G0 : LedAt w g y) (R0 : RasAt w r g b (h.W : Int) (h.H : Int) true) (D0 : BufAt w b g d (pixL [] (4 * (h.W * h.H)))) (ok : y.Ok) (hr : y.reason = 0) :
    Calls Tryz.prog 36 #[.pointer (some ⟨p, 0, none⟩), headV5 h, .pointer (some ⟨r, 0, none⟩)] w fun e w' => BodyPost w w' p g r b d s h y e := by
  have hmf : ∀ (fn : Fn) (first cap : Array Value) (w : World), (Instr.makeFunc fn first cap).run Tryz.prog w = .ok (.func fn first cap) w := fun _ _ _ _ => rfl
  obtain ⟨N, hN⟩ : ∃ N, h.W * h.H = N := ⟨_, rfl⟩
  have hP : N ≤ 268435456 := by rw [← hN]; exact Nat.mul_le_mul hh.W.2 hh.H.2
  rw [hN] at D0
  have u3 : Below w.heap.size w (((w.alloc (.cells #[.int .i64 (h.K : Int), .int .i64 (h.W : Int), .int .i64 (h.H : Int), .int .i64 (h.M : Int), .int .i64 (h.At : Int)] 61)).alloc (.cells #[.int .i64 0, .int .i64 0, .int .i64 0] 33)).alloc (.cells #[.pointer (some ⟨p, 0, none⟩), .int .i64 (h.K : Int), .int .i64 (h.W : Int), .int .i64 (h.H : Int), .int .i64 (h.M : Int), .int .i64 (h.At : Int), .pointer none] 115)) := (((Below.refl _ _).alloc (Nat.le_refl _) _).alloc (by simp) _).alloc (by simp; omega) _
  have S3 := Blk.below S0 u3 (Blk.lt S0)
  have G3 := Blk.below G0 u3 (Blk.lt G0)
  have R3 := Blk.below R0 u3 (Blk.lt R0)
  have D3 : BufAt (((w.alloc (.cells #[.int .i64 (h.K : Int), .int .i64 (h.W : Int), .int .i64 (h.H : Int), .int .i64 (h.M : Int), .int .i64 (h.At : Int)] 61)).alloc (.cells #[.int .i64 0, .int .i64 0, .int .i64 0] 33)).alloc (.cells #[.pointer (some ⟨p, 0, none⟩), .int .i64 (h.K : Int), .int .i64 (h.W : Int), .int .i64 (h.H : Int), .int .i64 (h.M : Int), .int .i64 (h.At : Int), .pointer none] 115)) b g d (pixL [] (4 * N)) := ⟨Blk.below D0.blk u3 (Blk.lt D0.blk), Blk.below D0.row u3 (Blk.lt D0.row)⟩
  have H3 : Blk (((w.alloc (.cells #[.int .i64 (h.K : Int), .int .i64 (h.W : Int), .int .i64 (h.H : Int), .int .i64 (h.M : Int), .int .i64 (h.At : Int)] 61)).alloc (.cells #[.int .i64 0, .int .i64 0, .int .i64 0] 33)).alloc (.cells #[.pointer (some ⟨p, 0, none⟩), .int .i64 (h.K : Int), .int .i64 (h.W : Int), .int .i64 (h.H : Int), .int .i64 (h.M : Int), .int .i64 (h.At : Int), .pointer none] 115)) w.heap.size 61 #[.int .i64 (h.K : Int), .int .i64 (h.W : Int), .int .i64 (h.H : Int), .int .i64 (h.M : Int), .int .i64 (h.At : Int)] := Blk.alloc (Blk.alloc (Blk.new _ _ _) _) _
  have F3 : FB (((w.alloc (.cells #[.int .i64 (h.K : Int), .int .i64 (h.W : Int), .int .i64 (h.H : Int), .int .i64 (h.M : Int), .int .i64 (h.At : Int)] 61)).alloc (.cells #[.int .i64 0, .int .i64 0, .int .i64 0] 33)).alloc (.cells #[.pointer (some ⟨p, 0, none⟩), .int .i64 (h.K : Int), .int .i64 (h.W : Int), .int .i64 (h.H : Int), .int .i64 (h.M : Int), .int .i64 (h.At : Int), .pointer none] 115)) (w.heap.size + 1) 0 0 0 := Blk.alloc (Blk.new_at _ _ _ (by simp)) _
  have X3 : Blk (((w.alloc (.cells #[.int .i64 (h.K : Int), .int .i64 (h.W : Int), .int .i64 (h.H : Int), .int .i64 (h.M : Int), .int .i64 (h.At : Int)] 61)).alloc (.cells #[.int .i64 0, .int .i64 0, .int .i64 0] 33)).alloc (.cells #[.pointer (some ⟨p, 0, none⟩), .int .i64 (h.K : Int), .int .i64 (h.W : Int), .int .i64 (h.H : Int), .int .i64 (h.M : Int), .int .i64 (h.At : Int), .pointer none] 115)) (w.heap.size + 2) 115 #[.pointer (some ⟨p, 0, none⟩), .int .i64 (h.K : Int), .int .i64 (h.W : Int), .int .i64 (h.H : Int), .int .i64 (h.M : Int), .int .i64 (h.At : Int), .pointer none] := Blk.new_at _ _ _ (by simp)
  have hdw : d < w.heap.size := Blk.lt D0.row
  have HH := Lib.hid (And.intro hh (And.intro hsm (And.intro hN (And.intro ok (And.intro hr (And.intro hP hK))))))
  have HQ := Lib.hid (fun w => sclNew_open h.M w hh.M.1 hh.M.2)
  have HK1 := Lib.hid hk1
  clear hk1
  unfold headV5
  clear S0 G0 R0 D0 hN ok hr hh hsm hK
  go_enter Tryz.func36, Tryz.ntmps36
  go_upto_region 2 with fail
  generalize (((w.alloc (.cells #[.int .i64 (h.K : Int), .int .i64 (h.W : Int), .int .i64 (h.H : Int), .int .i64 (h.M : Int), .int .i64 (h.At : Int)] 61)).alloc (.cells #[.int .i64 0, .int .i64 0, .int .i64 0] 33)).alloc (.cells #[.pointer (some ⟨p, 0, none⟩), .int .i64 (h.K : Int), .int .i64 (h.W : Int), .int .i64 (h.H : Int), .int .i64 (h.M : Int), .int .i64 (h.At : Int), .pointer none] 115)) = w3 at u3 S3 G3 R3 D3 H3 F3 X3 ⊢
  have h0 : w3.cell? ⟨w.heap.size, 0, none⟩ = some (.int .i64 (h.K : Int)) := Blk.cell H3 0
  have h1 : w3.cell? ⟨w.heap.size, 1, none⟩ = some (.int .i64 (h.W : Int)) := Blk.cell H3 1
  have h2 : w3.cell? ⟨w.heap.size, 2, none⟩ = some (.int .i64 (h.H : Int)) := Blk.cell H3 2
  have h3 : w3.cell? ⟨w.heap.size, 3, none⟩ = some (.int .i64 (h.M : Int)) := Blk.cell H3 3
  have HB := Lib.hid (And.intro u3 (And.intro S3 (And.intro G3 (And.intro R3 (And.intro D3 (And.intro H3 (And.intro F3 X3)))))))
  clear u3 S3 G3 R3 D3 H3 F3 X3
  go_upto_region 3 with (go_at_call 56; refine (HQ.out _).mono ?_; rintro e w4 ⟨q, rfl, hqn, hso, b4⟩; have X4 : Blk w4 (w.heap.size + 2) 115 #[.pointer (some ⟨p, 0, none⟩), .int .i64 (h.K : Int), .int .i64 (h.W : Int), .int .i64 (h.H : Int), .int .i64 (h.M : Int), .int .i64 (h.At : Int), .pointer none] := Blk.below HB.out.2.2.2.2.2.2.2 b4 (Blk.lt HB.out.2.2.2.2.2.2.2); have x6 : w4.cell? ⟨w.heap.size + 2, 6, none⟩ = some (.pointer none) := Blk.cell X4 6; have xz : w4.frozen? ⟨w.heap.size + 2, 6, none⟩ = false := Blk.frozen X4 6; have xl := Blk.lt X4)
  have hqd : w.heap.size + 2 < q := Nat.lt_of_lt_of_le (Blk.lt HB.out.2.2.2.2.2.2.2) hqn
  have hx2 : ∀ k, k ≠ w.heap.size + 2 → w.heap.size + 2 ≠ k := fun k hk => hk.symm
  have I5 : TRI w (w4.setCell ⟨w.heap.size + 2, 6, none⟩ (.pointer (some ⟨q, 0, none⟩))) p g (w.heap.size + 2) q r b d (w.heap.size + 1) s h N h.At [] y := by
    have B := HB.out
    have S4 := Blk.below B.2.1 b4 (Blk.lt B.2.1)
    have G4 := Blk.below B.2.2.1 b4 (Blk.lt B.2.2.1)
    have R4 := Blk.below B.2.2.2.1 b4 (Blk.lt B.2.2.2.1)
    have D4b := Blk.below B.2.2.2.2.1.blk b4 (Blk.lt B.2.2.2.2.1.blk)
    have D4r := Blk.below B.2.2.2.2.1.row b4 (Blk.lt B.2.2.2.2.1.row)
    have H4 := Blk.below B.2.2.2.2.2.1 b4 (Blk.lt B.2.2.2.2.2.1)
    have F4 : FB w4 (w.heap.size + 1) 0 0 0 := Blk.below B.2.2.2.2.2.2.1 b4 (Blk.lt B.2.2.2.2.2.2.1)
    refine ⟨⟨Blk.far S4 (p := ⟨w.heap.size + 2, 6, none⟩) (Blk.ne_ S4 X4 (by decide)) _, Blk.far G4 (p := ⟨w.heap.size + 2, 6, none⟩) (Blk.ne_ G4 X4 (by decide)) _, (Blk.set_ X4 6 _).eq_ (by simp), .inl (Blk.far hso (p := ⟨w.heap.size + 2, 6, none⟩) (show q ≠ w.heap.size + 2 by omega) _), Turn.refl _ _, fun i hi => ?_, HH.out.2.2.2.1⟩, Blk.far R4 (p := ⟨w.heap.size + 2, 6, none⟩) (Blk.ne_ R4 X4 (by decide)) _, ⟨Blk.far D4b (p := ⟨w.heap.size + 2, 6, none⟩) (Blk.ne_ D4b X4 (by decide)) _, Blk.far D4r (p := ⟨w.heap.size + 2, 6, none⟩) (Blk.ne_ D4r X4 (by decide)) _⟩, Blk.far F4 (p := ⟨w.heap.size + 2, 6, none⟩) (Blk.ne_ F4 X4 (by decide)) _, Blk.far H4 (p := ⟨w.heap.size + 2, 6, none⟩) (Blk.ne_ H4 X4 (by decide)) _, (Turn.of_below (below_next B.1 b4)).set_ 6 _ (.inr (by omega))⟩
    simp only [List.mem_cons, List.not_mem_nil, or_false] at hi
    subst hi
    simp
    omega
  clear h0 h1 h2 h3 x6 xz xl X4 hso hx2 HQ
  generalize w4.setCell ⟨w.heap.size + 2, 6, none⟩ (.pointer (some ⟨q, 0, none⟩)) = w5 at I5 ⊢
  have hqw : w.heap.size ≤ q := by omega
  clear hqn b4 HB
  have h0 : w5.cell? ⟨w.heap.size, 0, none⟩ = some (.int .i64 (h.K : Int)) := Blk.cell I5.U 0
  have h2 : w5.cell? ⟨w.heap.size, 2, none⟩ = some (.int .i64 (h.H : Int)) := Blk.cell I5.U 2
  have HI5 := Lib.hid I5
  clear I5
  have k1 : (h.K : Int) = 1 := by have := HK1.out; omega
  go_upto_region 10 with fail
  clear h0 h2 k1
  go_loopg [40] h.H (fun k v40 wr => ∃ (Y a2 : Nat) (y2 : Led) (L : List Qc), Y + k = h.H ∧ v40 = .int .i64 (Y : Int) ∧ Hid (L.length = Y * h.W ∧ TRI w wr p g (w.heap.size + 2) q r b d (w.heap.size + 1) s h N a2 L y2 ∧ a2 ≤ s.size ∧ y2.reason = 0 ∧ y2.bytes = y.bytes ∧ ∀ z, (bodyD s h z).run y = (pixsD h.W h.H z (tpixD s h.K h.M z) (fun n => n) (N - L.length) a2 L).run y2))
  case atStart => exact ⟨0, h.At, y, [], by omega, rfl, Lib.hid ⟨by simp, HI5.out, HH.out.1.At, HH.out.2.2.2.2.1, rfl, fun z => by unfold bodyD; rw [if_pos HH.out.2.2.2.2.2.2, HH.out.2.2.1]; rfl⟩⟩
  case round =>
    clear HI5
    obtain ⟨Y, a2, y2, L, hY, rfl, HX⟩ := hrel
    obtain ⟨wy, hwy⟩ : ∃ v, v = wr := ⟨_, rfl⟩
    subst hwy
    have hH1 : h.H ≤ 16384 := HH.out.1.H.2
    have hW1 : h.W ≤ 16384 := HH.out.1.W.2
    by_cases hYH : Y < h.H
    · have hYI : (Y : Int) < (h.H : Int) := by omega
      have HYY := Lib.hid (And.intro hY hYH)
      have h1 : wy.cell? ⟨w.heap.size, 1, none⟩ = some (.int .i64 (h.W : Int)) := Blk.cell HX.out.2.1.U 1
      clear hY
      go_upto_region 13 with fail
      clear h1
      go_loopg [45] h.W (fun k v45 wr => ∃ (X a3 : Nat) (y3 : Led) (L3 : List Qc), X + k = h.W ∧ v45 = .int .i64 (X : Int) ∧ Hid (L3.length = Y * h.W + X ∧ TRI w wr p g (w.heap.size + 2) q r b d (w.heap.size + 1) s h N a3 L3 y3 ∧ a3 ≤ s.size ∧ y3.reason = 0 ∧ y3.bytes = y.bytes ∧ ∀ z, (bodyD s h z).run y = (pixsD h.W h.H z (tpixD s h.K h.M z) (fun n => n) (N - L3.length) a3 L3).run y3))
      case atStart => exact ⟨0, a2, y2, L, by omega, rfl, Lib.hid ⟨by rw [HX.out.1]; rfl, HX.out.2⟩⟩
      case round =>
        clear HX
        obtain ⟨X, a3, y3, L3, hX, rfl, HZ⟩ := hrel
        by_cases hXW : X < h.W
        · have hXI : (X : Int) < (h.W : Int) := by omega
          have HXX := Lib.hid (And.intro hX hXW)
          have HP0 := (tbitC HZ.out.2.1.J HZ.out.2.2.1 HH.out.2.1 HH.out.1.M HZ.out.2.2.2.1).mono fun e w' hp => hp.to (D' := fun z k => tpixD s h.K h.M z a3 k) (fun z k => tpixD_one HK1.out)
          unfold PixPost Qc.v at HP0
          have HP := Lib.hid HP0
          clear HP0
          clear hX
          go_upto_region 16 with (go_at_call 58; refine HP.out.mono ?_; rintro e w6 ⟨y6, yb6, hor⟩; rcases hor with ⟨kk, aa, c0, c1, c2, c3, hk, yok, rfl, L6, run⟩ | ⟨c, a', rfl, ha', J6, yr, run⟩)
          · have A6 : TRI w wr p g (w.heap.size + 2) q r b d (w.heap.size + 1) s h N a3 L3 y3 := HZ.out.2.1
            obtain ⟨cq, hbq⟩ := A6.J.Q.blk
            have T6 := L6.2.2
            have N6 : ∀ {k : Nat} {t : TypeId} {cs : Array Value}, Blk wr k t cs → t ≠ 96 → t ≠ 94 → t ≠ 139 → k ∉ [p, g, q] := fun hb e1 e2 e3 => by
              simp only [List.mem_cons, List.not_mem_nil, or_false, not_or]
              exact ⟨Blk.ne_ hb A6.J.S e1, Blk.ne_ hb A6.J.G e2, Blk.ne_ hb hbq e3⟩
            have F7 : FB ((w6.alloc (.cells #[.int .u8 c0, .int .u8 c1, .int .u8 c2, .int .u8 c3] 48)).alloc (.cells #[.int .i64 (kk : Int), .int .i64 3, .int .i64 (aa : Int)] 33)) (w.heap.size + 1) 0 0 0 := Blk.alloc (Blk.alloc (FB.turn A6.F T6 (N6 A6.F (by decide) (by decide) (by decide))) _) _
            have E7 : FB ((w6.alloc (.cells #[.int .u8 c0, .int .u8 c1, .int .u8 c2, .int .u8 c3] 48)).alloc (.cells #[.int .i64 (kk : Int), .int .i64 3, .int .i64 (aa : Int)] 33)) (w6.heap.size + 1) (kk : Int) 3 (aa : Int) := Blk.new_at _ _ _ (by simp)
            have hfe : w.heap.size + 1 < w6.heap.size := Blk.lt (FB.turn A6.F T6 (N6 A6.F (by decide) (by decide) (by decide)))
            have K7 : LedAt ((w6.alloc (.cells #[.int .u8 c0, .int .u8 c1, .int .u8 c2, .int .u8 c3] 48)).alloc (.cells #[.int .i64 (kk : Int), .int .i64 3, .int .i64 (aa : Int)] 33)) g y6 ∧ Turn [p, g, q, d] w ((w6.alloc (.cells #[.int .u8 c0, .int .u8 c1, .int .u8 c2, .int .u8 c3] 48)).alloc (.cells #[.int .i64 (kk : Int), .int .i64 3, .int .i64 (aa : Int)] 33)) ∧ RasAt ((w6.alloc (.cells #[.int .u8 c0, .int .u8 c1, .int .u8 c2, .int .u8 c3] 48)).alloc (.cells #[.int .i64 (kk : Int), .int .i64 3, .int .i64 (aa : Int)] 33)) r g b (h.W : Int) (h.H : Int) true ∧ BufAt ((w6.alloc (.cells #[.int .u8 c0, .int .u8 c1, .int .u8 c2, .int .u8 c3] 48)).alloc (.cells #[.int .i64 (kk : Int), .int .i64 3, .int .i64 (aa : Int)] 33)) b g d (pixL L3 (4 * N)) :=
              ⟨Blk.alloc (Blk.alloc L6.1 _) _, ((A6.T.trans (T6.mono (by simp))).alloc _).alloc _, Blk.alloc (Blk.alloc (Blk.turn A6.R T6 (N6 A6.R (by decide) (by decide) (by decide))) _) _, ⟨Blk.alloc (Blk.alloc (Blk.turn A6.D.blk T6 (N6 A6.D.blk (by decide) (by decide) (by decide))) _) _, Blk.alloc (Blk.alloc (Blk.turn A6.D.row T6 (N6 A6.D.row (by decide) (by decide) (by decide))) _) _⟩⟩
            have HR := Lib.hid (And.intro run (And.intro hk (And.intro yok yb6)))
            have hki : ((kk : Int) != 0) = true := bne_iff_ne.2 (by omega)
            clear A6 L6 T6 N6 run hk yok yb6 HP hbq
            generalize (w6.alloc (.cells #[.int .u8 c0, .int .u8 c1, .int .u8 c2, .int .u8 c3] 48)).alloc (.cells #[.int .i64 (kk : Int), .int .i64 3, .int .i64 (aa : Int)] 33) = w7 at F7 E7 K7 ⊢
            generalize w6.heap.size = q8 at E7 hfe ⊢
            have hne : w.heap.size + 1 ≠ q8 + 1 := by omega
            have hne' := hne.symm
            have HK := Lib.hid K7
            clear K7
            obtain ⟨f0, f1, f2, z0, z1, z2, fl⟩ := FB.all F7
            obtain ⟨e0, e1, e2, ez0, ez1, ez2, el⟩ := FB.all E7
            go_wp2_with fail
            have F8 : FB (st3 w7 (w.heap.size + 1) (.int .i64 (kk : Int)) (.int .i64 3) (.int .i64 (aa : Int))) (w.heap.size + 1) (kk : Int) 3 (aa : Int) := FB.st3 F7
            obtain ⟨k0, k1, k2, _⟩ := FB.all F8
            change bodyPost _ _ _ _ _ (st3 w7 (w.heap.size + 1) (.int .i64 (kk : Int)) (.int .i64 3) (.int .i64 (aa : Int)))
            exact bodyPost_ret (v := .agg #[.int .i64 (kk : Int), .int .i64 3, .int .i64 (aa : Int)]) (by simp [results, Tryz.results36, go_sem, k0, k1, k2]) rfl ⟨y6, pixL L3 (4 * N), Blk.st3 HK.out.1 (Blk.ne_ HK.out.1 F7 (by decide)), HR.out.2.2.1, HR.out.2.2.2.trans HZ.out.2.2.2.2.1, Turn.st3 ⟨HK.out.2.1.os, HK.out.2.1.tape, HK.out.2.1.output, HK.out.2.1.size, fun i hi hn => HK.out.2.1.block i hi (by simp only [List.mem_cons, List.not_mem_nil, or_false, not_or] at hn ⊢; exact ⟨hn.1, hn.2.1, by omega, hn.2.2⟩)⟩ (.inr (by omega)), Blk.st3 HK.out.2.2.1 (Blk.ne_ HK.out.2.2.1 F7 (by decide)), ⟨Blk.st3 HK.out.2.2.2.blk (Blk.ne_ HK.out.2.2.2.blk F7 (by decide)), Blk.st3 HK.out.2.2.2.row (Blk.ne_ HK.out.2.2.2.row F7 (by decide))⟩, by rw [pixL_len (by have := pos_lt HZ.out.1 HYY.out.2 HXX.out.2 HH.out.2.2.1; omega), HH.out.2.2.1], .inl ⟨kk, aa, HR.out.2.1, rfl, fun z => by rw [HZ.out.2.2.2.2.2, show N - L3.length = N - L3.length - 1 + 1 by have := pos_lt HZ.out.1 HYY.out.2 HXX.out.2 HH.out.2.2.1; omega]; exact HR.out.1 z _⟩⟩
          · have I7 := ((HZ.out.2.1.pix J6).alloc (.cells #[.int .u8 (c.r.toNat : Int), .int .u8 (c.g.toNat : Int), .int .u8 (c.b.toNat : Int), .int .u8 (c.a.toNat : Int)] 48)).alloc (.cells #[.int .i64 0, .int .i64 0, .int .i64 0] 33)
            have C7 : CB ((w6.alloc (.cells #[.int .u8 (c.r.toNat : Int), .int .u8 (c.g.toNat : Int), .int .u8 (c.b.toNat : Int), .int .u8 (c.a.toNat : Int)] 48)).alloc (.cells #[.int .i64 0, .int .i64 0, .int .i64 0] 33)) w6.heap.size (c.r.toNat : Int) (c.g.toNat : Int) (c.b.toNat : Int) (c.a.toNat : Int) := Blk.alloc (Blk.new _ _ _) _
            have E7 : FB ((w6.alloc (.cells #[.int .u8 (c.r.toNat : Int), .int .u8 (c.g.toNat : Int), .int .u8 (c.b.toNat : Int), .int .u8 (c.a.toNat : Int)] 48)).alloc (.cells #[.int .i64 0, .int .i64 0, .int .i64 0] 33)) (w6.heap.size + 1) 0 0 0 := Blk.new_at _ _ _ (by simp)
            have HR := Lib.hid (And.intro run (And.intro ha' (And.intro yr (yb6.trans HZ.out.2.2.2.2.1))))
            clear run ha' yr yb6 J6 HP
            generalize (w6.alloc (.cells #[.int .u8 (c.r.toNat : Int), .int .u8 (c.g.toNat : Int), .int .u8 (c.b.toNat : Int), .int .u8 (c.a.toNat : Int)] 48)).alloc (.cells #[.int .i64 0, .int .i64 0, .int .i64 0] 33) = w7 at I7 C7 E7 ⊢
            generalize w6.heap.size = q8 at C7 E7 ⊢
            obtain ⟨e0, e1, e2, ez0, ez1, ez2, el⟩ := FB.all E7
            have d0 := CB.c0 C7
            have d1 := CB.c1 C7
            have d2 := CB.c2 C7
            have d3 := CB.c3 C7
            have hpos : Y * h.W + X + 1 ≤ N := by
              have h1 := HYY.out.2
              have h2 := Nat.mul_le_mul_right h.W (show Y + 1 ≤ h.H by omega)
              rw [Nat.add_mul, Nat.one_mul, Nat.mul_comm h.H, HH.out.2.2.1] at h2
              omega
            obtain ⟨P, hPe⟩ : ∃ P, Y * h.W = P := ⟨_, rfl⟩
            rw [hPe] at hpos
            have hL3 : L3.length = P + X := by rw [HZ.out.1, hPe]
            have hpl : (pixL L3 (4 * N)).length = 4 * N := pixL_len (by omega)
            have HS0 := (rasSet_ways (c0 := c.r) (c1 := c.g) (c2 := c.b) (c3 := c.a) (i := 4 * (P + X)) I7.R I7.D I7.J.G I7.J.ok HR.out.2.2.1 hXW HYY.out.2 hPe rfl (by omega) HH.out.1.W.2 HH.out.1.H.2 (by rw [hpl]; omega) (by rw [hpl]; omega))
            have hov : over (pixL L3 (4 * N)) (4 * (P + X)) [c.r, c.g, c.b, c.a] = pixL (L3 ++ [c]) (4 * N) := by rw [← hL3]; exact pixL_next c (by omega)
            unfold SetPost at HS0
            rw [hov] at HS0
            have HS := Lib.hid HS0
            clear HS0
            have HI7 := Lib.hid I7
            have HL3 := Lib.hid (And.intro hL3 (And.intro hpos hPe))
            clear hov hpl hL3 hpos hPe I7 C7 E7
            go_upto_region 18 with fail
            clear e0 e1 e2 ez0 ez1 ez2 el
            go_wp2_with (go_at_call 60; refine HS.out.mono ?_; rintro e w8 ⟨y8, g8, ok8, yb8, hor⟩; rcases hor with ⟨rfl, t8, hno, run8⟩ | ⟨rfl, t8, D8, yr8, run8⟩)
            · have I8 : TRI w w8 p g (w.heap.size + 2) q r b d (w.heap.size + 1) s h N a' L3 y8 := HI7.out.set (t8.mono (by simp)) (HI7.out.D.turn t8 (by simpa using Blk.ne_ HI7.out.D.blk HI7.out.J.G (by decide)) (by simpa using Blk.ne_ HI7.out.D.row HI7.out.J.G (by decide))) g8 ok8
              have HI8 := Lib.hid I8
              have HN8 := Lib.hid (And.intro hno (And.intro run8 (And.intro ok8 yb8)))
              clear I8 hno run8 ok8 yb8 g8 t8
              go_wp2_with (go_at_call 43; refine (srcFault_spent 3 HI8.out.J.S HI8.out.J.G HN8.out.1).mono ?_; rintro e w9 ⟨rfl, b9⟩; have I9 := HI8.out.below b9; obtain ⟨f0, f1, f2, z0, z1, z2, fl⟩ := FB.all I9.F)
              have F10 : FB (st3 w9 (w.heap.size + 1) (.int .i64 4) (.int .i64 3) (.int .i64 (a' : Int))) (w.heap.size + 1) 4 3 (a' : Int) := FB.st3 I9.F
              obtain ⟨k0, k1, k2, _⟩ := FB.all F10
              have fin := I9.fin (u := .int .i64 4) (v := .int .i64 3) (e := .int .i64 (a' : Int)) hqw (by omega)
              change bodyPost _ _ _ _ _ (st3 w9 (w.heap.size + 1) (.int .i64 4) (.int .i64 3) (.int .i64 (a' : Int)))
              exact bodyPost_ret (v := .agg #[.int .i64 4, .int .i64 3, .int .i64 (a' : Int)]) (by simp [results, Tryz.results36, go_sem, k0, k1, k2]) rfl ⟨y8, pixL L3 (4 * N), fin.1, HN8.out.2.2.1, HN8.out.2.2.2.trans HR.out.2.2.2, fin.2.1, fin.2.2.1, fin.2.2.2, by rw [pixL_len (by have := pos_lt HZ.out.1 HYY.out.2 HXX.out.2 HH.out.2.2.1; omega), HH.out.2.2.1], .inl ⟨4, a', by decide, rfl, fun z => by rw [HZ.out.2.2.2.2.2, show N - L3.length = N - L3.length - 1 + 1 by have := pos_lt HZ.out.1 HYY.out.2 HXX.out.2 HH.out.2.2.1; omega]; exact (HR.out.1 z _).trans (HN8.out.2.1 z a' _)⟩⟩
            · have I8 := HI7.out.set t8 D8 g8 ok8
              have HI8 := Lib.hid I8
              have HN8 := Lib.hid (And.intro run8 (And.intro yr8 yb8))
              clear I8 run8 ok8 yb8 g8 t8 D8 yr8
              go_roundg (h.W - (X + 1))
              case measure => have := HXX.out; omega
              case rel =>
                have hlen := pos_lt HZ.out.1 HYY.out.2 HXX.out.2 HH.out.2.2.1
                refine ⟨X + 1, a', y8, L3 ++ [c], by have := HXX.out; omega, by go_num, Lib.hid ⟨by rw [List.length_append, List.length_singleton, HZ.out.1]; omega, HI8.out, HR.out.2.1, HN8.out.2.1, HN8.out.2.2.trans HR.out.2.2.2, fun z => ?_⟩⟩
                rw [HZ.out.2.2.2.2.2, show N - L3.length = N - L3.length - 1 + 1 by have := pos_lt HZ.out.1 HYY.out.2 HXX.out.2 HH.out.2.2.1; omega, show N - (L3 ++ [c]).length = N - L3.length - 1 by rw [List.length_append, List.length_singleton]; omega]
                exact (HR.out.1 z _).trans (HN8.out.1 z a' _)
        · have hXI : ¬ (X : Int) < (h.W : Int) := by omega
          have hXe : X = h.W := by omega
          have HXE := Lib.hid hXe
          clear hX hXe
          go_wp2_with fail
          go_roundg (h.H - (Y + 1))
          case measure => have := HYY.out; omega
          case rel => exact ⟨Y + 1, a3, y3, L3, by have := HYY.out; omega, by go_num, Lib.hid ⟨by rw [HZ.out.1, HXE.out, Nat.add_mul, Nat.one_mul], HZ.out.2⟩⟩
    · have hYI : ¬ (Y : Int) < (h.H : Int) := by omega
      have hLN : L.length = N := by rw [HX.out.1, show Y = h.H by omega, Nat.mul_comm]; exact HH.out.2.2.1
      have HLN := Lib.hid hLN
      have I9 := HX.out.2.1
      obtain ⟨f0, f1, f2, z0, z1, z2, fl⟩ := FB.all I9.F
      clear hY hLN
      go_wp2_with fail
      have F10 : FB (st3 wy (w.heap.size + 1) (.int .i64 0) (.int .i64 0) (.int .i64 0)) (w.heap.size + 1) 0 0 0 := FB.st3 I9.F
      obtain ⟨k0, k1, k2, _⟩ := FB.all F10
      have fin := I9.fin (u := .int .i64 0) (v := .int .i64 0) (e := .int .i64 0) hqw (by omega)
      change bodyPost _ _ _ _ _ (st3 wy (w.heap.size + 1) (.int .i64 0) (.int .i64 0) (.int .i64 0))
      exact bodyPost_ret (v := .agg #[.int .i64 0, .int .i64 0, .int .i64 0]) (by simp [results, Tryz.results36, go_sem, k0, k1, k2]) rfl ⟨y2, pixL L (4 * N), fin.1, I9.J.ok, HX.out.2.2.2.2.1, fin.2.1, fin.2.2.1, fin.2.2.2, by rw [pixL_len (by rw [HLN.out]; omega), HH.out.2.2.1], .inr ⟨rfl, HX.out.2.2.2.1, L, by rw [HLN.out, HH.out.2.2.1], pixL_all (by rw [HLN.out]), fun z => by rw [HX.out.2.2.2.2.2, HLN.out, Nat.sub_self]; rfl⟩⟩
set_option maxRecDepth 100000 in
set_option maxHeartbeats 8000000 in
theorem txtRead_three {w : World} {p g r b d : Nat} {s : ByteArray} {h : HeadR} {y : Led} (hh : HeadOk s h) (hsm : s.size ≤ 1099511627776) (hK : h.K ≤ 3) (hk3 : h.K = 3) (S0 : SrcAt w p g s 0 s.size h.At) (G0 : LedAt w g y) (R0 : RasAt w r g b (h.W : Int) (h.H : Int) true) (D0 : BufAt w b g d (pixL [] (4 * (h.W * h.H)))) (ok : y.Ok) (hr : y.reason = 0) :
    Calls Tryz.prog 36 #[.pointer (some ⟨p, 0, none⟩), headV5 h, .pointer (some ⟨r, 0, none⟩)] w fun e w' => BodyPost w w' p g r b d s h y e := by
  have hmf : ∀ (fn : Fn) (first cap : Array Value) (w : World), (Instr.makeFunc fn first cap).run Tryz.prog w = .ok (.func fn first cap) w := fun _ _ _ _ => rfl
  obtain ⟨N, hN⟩ : ∃ N, h.W * h.H = N := ⟨_, rfl⟩
  have hP : N ≤ 268435456 := by rw [← hN]; exact Nat.mul_le_mul hh.W.2 hh.H.2
  rw [hN] at D0
  have u3 : Below w.heap.size w (((w.alloc (.cells #[.int .i64 (h.K : Int), .int .i64 (h.W : Int), .int .i64 (h.H : Int), .int .i64 (h.M : Int), .int .i64 (h.At : Int)] 61)).alloc (.cells #[.int .i64 0, .int .i64 0, .int .i64 0] 33)).alloc (.cells #[.pointer (some ⟨p, 0, none⟩), .int .i64 (h.K : Int), .int .i64 (h.W : Int), .int .i64 (h.H : Int), .int .i64 (h.M : Int), .int .i64 (h.At : Int), .pointer none] 115)) := (((Below.refl _ _).alloc (Nat.le_refl _) _).alloc (by simp) _).alloc (by simp; omega) _
  have S3 := Blk.below S0 u3 (Blk.lt S0)
  have G3 := Blk.below G0 u3 (Blk.lt G0)
  have R3 := Blk.below R0 u3 (Blk.lt R0)
  have D3 : BufAt (((w.alloc (.cells #[.int .i64 (h.K : Int), .int .i64 (h.W : Int), .int .i64 (h.H : Int), .int .i64 (h.M : Int), .int .i64 (h.At : Int)] 61)).alloc (.cells #[.int .i64 0, .int .i64 0, .int .i64 0] 33)).alloc (.cells #[.pointer (some ⟨p, 0, none⟩), .int .i64 (h.K : Int), .int .i64 (h.W : Int), .int .i64 (h.H : Int), .int .i64 (h.M : Int), .int .i64 (h.At : Int), .pointer none] 115)) b g d (pixL [] (4 * N)) := ⟨Blk.below D0.blk u3 (Blk.lt D0.blk), Blk.below D0.row u3 (Blk.lt D0.row)⟩
  have H3 : Blk (((w.alloc (.cells #[.int .i64 (h.K : Int), .int .i64 (h.W : Int), .int .i64 (h.H : Int), .int .i64 (h.M : Int), .int .i64 (h.At : Int)] 61)).alloc (.cells #[.int .i64 0, .int .i64 0, .int .i64 0] 33)).alloc (.cells #[.pointer (some ⟨p, 0, none⟩), .int .i64 (h.K : Int), .int .i64 (h.W : Int), .int .i64 (h.H : Int), .int .i64 (h.M : Int), .int .i64 (h.At : Int), .pointer none] 115)) w.heap.size 61 #[.int .i64 (h.K : Int), .int .i64 (h.W : Int), .int .i64 (h.H : Int), .int .i64 (h.M : Int), .int .i64 (h.At : Int)] := Blk.alloc (Blk.alloc (Blk.new _ _ _) _) _
  have F3 : FB (((w.alloc (.cells #[.int .i64 (h.K : Int), .int .i64 (h.W : Int), .int .i64 (h.H : Int), .int .i64 (h.M : Int), .int .i64 (h.At : Int)] 61)).alloc (.cells #[.int .i64 0, .int .i64 0, .int .i64 0] 33)).alloc (.cells #[.pointer (some ⟨p, 0, none⟩), .int .i64 (h.K : Int), .int .i64 (h.W : Int), .int .i64 (h.H : Int), .int .i64 (h.M : Int), .int .i64 (h.At : Int), .pointer none] 115)) (w.heap.size + 1) 0 0 0 := Blk.alloc (Blk.new_at _ _ _ (by simp)) _
  have X3 : Blk (((w.alloc (.cells #[.int .i64 (h.K : Int), .int .i64 (h.W : Int), .int .i64 (h.H : Int), .int .i64 (h.M : Int), .int .i64 (h.At : Int)] 61)).alloc (.cells #[.int .i64 0, .int .i64 0, .int .i64 0] 33)).alloc (.cells #[.pointer (some ⟨p, 0, none⟩), .int .i64 (h.K : Int), .int .i64 (h.W : Int), .int .i64 (h.H : Int), .int .i64 (h.M : Int), .int .i64 (h.At : Int), .pointer none] 115)) (w.heap.size + 2) 115 #[.pointer (some ⟨p, 0, none⟩), .int .i64 (h.K : Int), .int .i64 (h.W : Int), .int .i64 (h.H : Int), .int .i64 (h.M : Int), .int .i64 (h.At : Int), .pointer none] := Blk.new_at _ _ _ (by simp)
  have hdw : d < w.heap.size := Blk.lt D0.row
  have HH := Lib.hid (And.intro hh (And.intro hsm (And.intro hN (And.intro ok (And.intro hr (And.intro hP hK))))))
  have HQ := Lib.hid (fun w => sclNew_open h.M w hh.M.1 hh.M.2)
  have HK1 := Lib.hid hk3
  clear hk3
  unfold headV5
  clear S0 G0 R0 D0 hN ok hr hh hsm hK
  go_enter Tryz.func36, Tryz.ntmps36
  go_upto_region 2 with fail
  generalize (((w.alloc (.cells #[.int .i64 (h.K : Int), .int .i64 (h.W : Int), .int .i64 (h.H : Int), .int .i64 (h.M : Int), .int .i64 (h.At : Int)] 61)).alloc (.cells #[.int .i64 0, .int .i64 0, .int .i64 0] 33)).alloc (.cells #[.pointer (some ⟨p, 0, none⟩), .int .i64 (h.K : Int), .int .i64 (h.W : Int), .int .i64 (h.H : Int), .int .i64 (h.M : Int), .int .i64 (h.At : Int), .pointer none] 115)) = w3 at u3 S3 G3 R3 D3 H3 F3 X3 ⊢
  have h0 : w3.cell? ⟨w.heap.size, 0, none⟩ = some (.int .i64 (h.K : Int)) := Blk.cell H3 0
  have h1 : w3.cell? ⟨w.heap.size, 1, none⟩ = some (.int .i64 (h.W : Int)) := Blk.cell H3 1
  have h2 : w3.cell? ⟨w.heap.size, 2, none⟩ = some (.int .i64 (h.H : Int)) := Blk.cell H3 2
  have h3 : w3.cell? ⟨w.heap.size, 3, none⟩ = some (.int .i64 (h.M : Int)) := Blk.cell H3 3
  have HB := Lib.hid (And.intro u3 (And.intro S3 (And.intro G3 (And.intro R3 (And.intro D3 (And.intro H3 (And.intro F3 X3)))))))
  clear u3 S3 G3 R3 D3 H3 F3 X3
  go_upto_region 3 with (go_at_call 56; refine (HQ.out _).mono ?_; rintro e w4 ⟨q, rfl, hqn, hso, b4⟩; have X4 : Blk w4 (w.heap.size + 2) 115 #[.pointer (some ⟨p, 0, none⟩), .int .i64 (h.K : Int), .int .i64 (h.W : Int), .int .i64 (h.H : Int), .int .i64 (h.M : Int), .int .i64 (h.At : Int), .pointer none] := Blk.below HB.out.2.2.2.2.2.2.2 b4 (Blk.lt HB.out.2.2.2.2.2.2.2); have x6 : w4.cell? ⟨w.heap.size + 2, 6, none⟩ = some (.pointer none) := Blk.cell X4 6; have xz : w4.frozen? ⟨w.heap.size + 2, 6, none⟩ = false := Blk.frozen X4 6; have xl := Blk.lt X4)
  have hqd : w.heap.size + 2 < q := Nat.lt_of_lt_of_le (Blk.lt HB.out.2.2.2.2.2.2.2) hqn
  have hx2 : ∀ k, k ≠ w.heap.size + 2 → w.heap.size + 2 ≠ k := fun k hk => hk.symm
  have I5 : TRI w (w4.setCell ⟨w.heap.size + 2, 6, none⟩ (.pointer (some ⟨q, 0, none⟩))) p g (w.heap.size + 2) q r b d (w.heap.size + 1) s h N h.At [] y := by
    have B := HB.out
    have S4 := Blk.below B.2.1 b4 (Blk.lt B.2.1)
    have G4 := Blk.below B.2.2.1 b4 (Blk.lt B.2.2.1)
    have R4 := Blk.below B.2.2.2.1 b4 (Blk.lt B.2.2.2.1)
    have D4b := Blk.below B.2.2.2.2.1.blk b4 (Blk.lt B.2.2.2.2.1.blk)
    have D4r := Blk.below B.2.2.2.2.1.row b4 (Blk.lt B.2.2.2.2.1.row)
    have H4 := Blk.below B.2.2.2.2.2.1 b4 (Blk.lt B.2.2.2.2.2.1)
    have F4 : FB w4 (w.heap.size + 1) 0 0 0 := Blk.below B.2.2.2.2.2.2.1 b4 (Blk.lt B.2.2.2.2.2.2.1)
    refine ⟨⟨Blk.far S4 (p := ⟨w.heap.size + 2, 6, none⟩) (Blk.ne_ S4 X4 (by decide)) _, Blk.far G4 (p := ⟨w.heap.size + 2, 6, none⟩) (Blk.ne_ G4 X4 (by decide)) _, (Blk.set_ X4 6 _).eq_ (by simp), .inl (Blk.far hso (p := ⟨w.heap.size + 2, 6, none⟩) (show q ≠ w.heap.size + 2 by omega) _), Turn.refl _ _, fun i hi => ?_, HH.out.2.2.2.1⟩, Blk.far R4 (p := ⟨w.heap.size + 2, 6, none⟩) (Blk.ne_ R4 X4 (by decide)) _, ⟨Blk.far D4b (p := ⟨w.heap.size + 2, 6, none⟩) (Blk.ne_ D4b X4 (by decide)) _, Blk.far D4r (p := ⟨w.heap.size + 2, 6, none⟩) (Blk.ne_ D4r X4 (by decide)) _⟩, Blk.far F4 (p := ⟨w.heap.size + 2, 6, none⟩) (Blk.ne_ F4 X4 (by decide)) _, Blk.far H4 (p := ⟨w.heap.size + 2, 6, none⟩) (Blk.ne_ H4 X4 (by decide)) _, (Turn.of_below (below_next B.1 b4)).set_ 6 _ (.inr (by omega))⟩
    simp only [List.mem_cons, List.not_mem_nil, or_false] at hi
    subst hi
    simp
    omega
  clear h0 h1 h2 h3 x6 xz xl X4 hso hx2 HQ
  generalize w4.setCell ⟨w.heap.size + 2, 6, none⟩ (.pointer (some ⟨q, 0, none⟩)) = w5 at I5 ⊢
  have hqw : w.heap.size ≤ q := by omega
  clear hqn b4 HB
  have h0 : w5.cell? ⟨w.heap.size, 0, none⟩ = some (.int .i64 (h.K : Int)) := Blk.cell I5.U 0
  have h2 : w5.cell? ⟨w.heap.size, 2, none⟩ = some (.int .i64 (h.H : Int)) := Blk.cell I5.U 2
  have HI5 := Lib.hid I5
  clear I5
  have k1 : ((h.K : Int) == 1) = false := beq_eq_false_iff_ne.2 (by have := HK1.out; omega)
  have k3 : (h.K : Int) = 3 := by have := HK1.out; omega
  go_upto_region 10 with fail
  clear h0 h2 k1 k3
  go_loopg [40] h.H (fun k v40 wr => ∃ (Y a2 : Nat) (y2 : Led) (L : List Qc), Y + k = h.H ∧ v40 = .int .i64 (Y : Int) ∧ Hid (L.length = Y * h.W ∧ TRI w wr p g (w.heap.size + 2) q r b d (w.heap.size + 1) s h N a2 L y2 ∧ a2 ≤ s.size ∧ y2.reason = 0 ∧ y2.bytes = y.bytes ∧ ∀ z, (bodyD s h z).run y = (pixsD h.W h.H z (tpixD s h.K h.M z) (fun n => n) (N - L.length) a2 L).run y2))
  case atStart => exact ⟨0, h.At, y, [], by omega, rfl, Lib.hid ⟨by simp, HI5.out, HH.out.1.At, HH.out.2.2.2.2.1, rfl, fun z => by unfold bodyD; rw [if_pos HH.out.2.2.2.2.2.2, HH.out.2.2.1]; rfl⟩⟩
  case round =>
    clear HI5
    obtain ⟨Y, a2, y2, L, hY, rfl, HX⟩ := hrel
    obtain ⟨wy, hwy⟩ : ∃ v, v = wr := ⟨_, rfl⟩
    subst hwy
    have hH1 : h.H ≤ 16384 := HH.out.1.H.2
    have hW1 : h.W ≤ 16384 := HH.out.1.W.2
    by_cases hYH : Y < h.H
    · have hYI : (Y : Int) < (h.H : Int) := by omega
      have HYY := Lib.hid (And.intro hY hYH)
      have h1 : wy.cell? ⟨w.heap.size, 1, none⟩ = some (.int .i64 (h.W : Int)) := Blk.cell HX.out.2.1.U 1
      clear hY
      go_upto_region 13 with fail
      clear h1
      go_loopg [45] h.W (fun k v45 wr => ∃ (X a3 : Nat) (y3 : Led) (L3 : List Qc), X + k = h.W ∧ v45 = .int .i64 (X : Int) ∧ Hid (L3.length = Y * h.W + X ∧ TRI w wr p g (w.heap.size + 2) q r b d (w.heap.size + 1) s h N a3 L3 y3 ∧ a3 ≤ s.size ∧ y3.reason = 0 ∧ y3.bytes = y.bytes ∧ ∀ z, (bodyD s h z).run y = (pixsD h.W h.H z (tpixD s h.K h.M z) (fun n => n) (N - L3.length) a3 L3).run y3))
      case atStart => exact ⟨0, a2, y2, L, by omega, rfl, Lib.hid ⟨by rw [HX.out.1]; rfl, HX.out.2⟩⟩
      case round =>
        clear HX
        obtain ⟨X, a3, y3, L3, hX, rfl, HZ⟩ := hrel
        by_cases hXW : X < h.W
        · have hXI : (X : Int) < (h.W : Int) := by omega
          have HXX := Lib.hid (And.intro hX hXW)
          have HP0 := (tcolorC HZ.out.2.1.J HZ.out.2.2.1 HH.out.2.1 HH.out.1.M HZ.out.2.2.2.1).mono fun e w' hp => hp.to (D' := fun z k => tpixD s h.K h.M z a3 k) (fun z k => tpixD_three HK1.out)
          unfold PixPost Qc.v at HP0
          have HP := Lib.hid HP0
          clear HP0
          clear hX
          go_upto_region 16 with (go_at_call 59; refine HP.out.mono ?_; rintro e w6 ⟨y6, yb6, hor⟩; rcases hor with ⟨kk, aa, c0, c1, c2, c3, hk, yok, rfl, L6, run⟩ | ⟨c, a', rfl, ha', J6, yr, run⟩)
          · have A6 : TRI w wr p g (w.heap.size + 2) q r b d (w.heap.size + 1) s h N a3 L3 y3 := HZ.out.2.1
            obtain ⟨cq, hbq⟩ := A6.J.Q.blk
            have T6 := L6.2.2
            have N6 : ∀ {k : Nat} {t : TypeId} {cs : Array Value}, Blk wr k t cs → t ≠ 96 → t ≠ 94 → t ≠ 139 → k ∉ [p, g, q] := fun hb e1 e2 e3 => by
              simp only [List.mem_cons, List.not_mem_nil, or_false, not_or]
              exact ⟨Blk.ne_ hb A6.J.S e1, Blk.ne_ hb A6.J.G e2, Blk.ne_ hb hbq e3⟩
            have F7 : FB ((w6.alloc (.cells #[.int .u8 c0, .int .u8 c1, .int .u8 c2, .int .u8 c3] 48)).alloc (.cells #[.int .i64 (kk : Int), .int .i64 3, .int .i64 (aa : Int)] 33)) (w.heap.size + 1) 0 0 0 := Blk.alloc (Blk.alloc (FB.turn A6.F T6 (N6 A6.F (by decide) (by decide) (by decide))) _) _
            have E7 : FB ((w6.alloc (.cells #[.int .u8 c0, .int .u8 c1, .int .u8 c2, .int .u8 c3] 48)).alloc (.cells #[.int .i64 (kk : Int), .int .i64 3, .int .i64 (aa : Int)] 33)) (w6.heap.size + 1) (kk : Int) 3 (aa : Int) := Blk.new_at _ _ _ (by simp)
            have hfe : w.heap.size + 1 < w6.heap.size := Blk.lt (FB.turn A6.F T6 (N6 A6.F (by decide) (by decide) (by decide)))
            have K7 : LedAt ((w6.alloc (.cells #[.int .u8 c0, .int .u8 c1, .int .u8 c2, .int .u8 c3] 48)).alloc (.cells #[.int .i64 (kk : Int), .int .i64 3, .int .i64 (aa : Int)] 33)) g y6 ∧ Turn [p, g, q, d] w ((w6.alloc (.cells #[.int .u8 c0, .int .u8 c1, .int .u8 c2, .int .u8 c3] 48)).alloc (.cells #[.int .i64 (kk : Int), .int .i64 3, .int .i64 (aa : Int)] 33)) ∧ RasAt ((w6.alloc (.cells #[.int .u8 c0, .int .u8 c1, .int .u8 c2, .int .u8 c3] 48)).alloc (.cells #[.int .i64 (kk : Int), .int .i64 3, .int .i64 (aa : Int)] 33)) r g b (h.W : Int) (h.H : Int) true ∧ BufAt ((w6.alloc (.cells #[.int .u8 c0, .int .u8 c1, .int .u8 c2, .int .u8 c3] 48)).alloc (.cells #[.int .i64 (kk : Int), .int .i64 3, .int .i64 (aa : Int)] 33)) b g d (pixL L3 (4 * N)) :=
              ⟨Blk.alloc (Blk.alloc L6.1 _) _, ((A6.T.trans (T6.mono (by simp))).alloc _).alloc _, Blk.alloc (Blk.alloc (Blk.turn A6.R T6 (N6 A6.R (by decide) (by decide) (by decide))) _) _, ⟨Blk.alloc (Blk.alloc (Blk.turn A6.D.blk T6 (N6 A6.D.blk (by decide) (by decide) (by decide))) _) _, Blk.alloc (Blk.alloc (Blk.turn A6.D.row T6 (N6 A6.D.row (by decide) (by decide) (by decide))) _) _⟩⟩
            have HR := Lib.hid (And.intro run (And.intro hk (And.intro yok yb6)))
            have hki : ((kk : Int) != 0) = true := bne_iff_ne.2 (by omega)
            clear A6 L6 T6 N6 run hk yok yb6 HP hbq
            generalize (w6.alloc (.cells #[.int .u8 c0, .int .u8 c1, .int .u8 c2, .int .u8 c3] 48)).alloc (.cells #[.int .i64 (kk : Int), .int .i64 3, .int .i64 (aa : Int)] 33) = w7 at F7 E7 K7 ⊢
            generalize w6.heap.size = q8 at E7 hfe ⊢
            have hne : w.heap.size + 1 ≠ q8 + 1 := by omega
            have hne' := hne.symm
            have HK := Lib.hid K7
            clear K7
            obtain ⟨f0, f1, f2, z0, z1, z2, fl⟩ := FB.all F7
            obtain ⟨e0, e1, e2, ez0, ez1, ez2, el⟩ := FB.all E7
            go_wp2_with fail
            have F8 : FB (st3 w7 (w.heap.size + 1) (.int .i64 (kk : Int)) (.int .i64 3) (.int .i64 (aa : Int))) (w.heap.size + 1) (kk : Int) 3 (aa : Int) := FB.st3 F7
            obtain ⟨k0, k1, k2, _⟩ := FB.all F8
            change bodyPost _ _ _ _ _ (st3 w7 (w.heap.size + 1) (.int .i64 (kk : Int)) (.int .i64 3) (.int .i64 (aa : Int)))
            exact bodyPost_ret (v := .agg #[.int .i64 (kk : Int), .int .i64 3, .int .i64 (aa : Int)]) (by simp [results, Tryz.results36, go_sem, k0, k1, k2]) rfl ⟨y6, pixL L3 (4 * N), Blk.st3 HK.out.1 (Blk.ne_ HK.out.1 F7 (by decide)), HR.out.2.2.1, HR.out.2.2.2.trans HZ.out.2.2.2.2.1, Turn.st3 ⟨HK.out.2.1.os, HK.out.2.1.tape, HK.out.2.1.output, HK.out.2.1.size, fun i hi hn => HK.out.2.1.block i hi (by simp only [List.mem_cons, List.not_mem_nil, or_false, not_or] at hn ⊢; exact ⟨hn.1, hn.2.1, by omega, hn.2.2⟩)⟩ (.inr (by omega)), Blk.st3 HK.out.2.2.1 (Blk.ne_ HK.out.2.2.1 F7 (by decide)), ⟨Blk.st3 HK.out.2.2.2.blk (Blk.ne_ HK.out.2.2.2.blk F7 (by decide)), Blk.st3 HK.out.2.2.2.row (Blk.ne_ HK.out.2.2.2.row F7 (by decide))⟩, by rw [pixL_len (by have := pos_lt HZ.out.1 HYY.out.2 HXX.out.2 HH.out.2.2.1; omega), HH.out.2.2.1], .inl ⟨kk, aa, HR.out.2.1, rfl, fun z => by rw [HZ.out.2.2.2.2.2, show N - L3.length = N - L3.length - 1 + 1 by have := pos_lt HZ.out.1 HYY.out.2 HXX.out.2 HH.out.2.2.1; omega]; exact HR.out.1 z _⟩⟩
          · have I7 := ((HZ.out.2.1.pix J6).alloc (.cells #[.int .u8 (c.r.toNat : Int), .int .u8 (c.g.toNat : Int), .int .u8 (c.b.toNat : Int), .int .u8 (c.a.toNat : Int)] 48)).alloc (.cells #[.int .i64 0, .int .i64 0, .int .i64 0] 33)
            have C7 : CB ((w6.alloc (.cells #[.int .u8 (c.r.toNat : Int), .int .u8 (c.g.toNat : Int), .int .u8 (c.b.toNat : Int), .int .u8 (c.a.toNat : Int)] 48)).alloc (.cells #[.int .i64 0, .int .i64 0, .int .i64 0] 33)) w6.heap.size (c.r.toNat : Int) (c.g.toNat : Int) (c.b.toNat : Int) (c.a.toNat : Int) := Blk.alloc (Blk.new _ _ _) _
            have E7 : FB ((w6.alloc (.cells #[.int .u8 (c.r.toNat : Int), .int .u8 (c.g.toNat : Int), .int .u8 (c.b.toNat : Int), .int .u8 (c.a.toNat : Int)] 48)).alloc (.cells #[.int .i64 0, .int .i64 0, .int .i64 0] 33)) (w6.heap.size + 1) 0 0 0 := Blk.new_at _ _ _ (by simp)
            have HR := Lib.hid (And.intro run (And.intro ha' (And.intro yr (yb6.trans HZ.out.2.2.2.2.1))))
            clear run ha' yr yb6 J6 HP
            generalize (w6.alloc (.cells #[.int .u8 (c.r.toNat : Int), .int .u8 (c.g.toNat : Int), .int .u8 (c.b.toNat : Int), .int .u8 (c.a.toNat : Int)] 48)).alloc (.cells #[.int .i64 0, .int .i64 0, .int .i64 0] 33) = w7 at I7 C7 E7 ⊢
            generalize w6.heap.size = q8 at C7 E7 ⊢
            obtain ⟨e0, e1, e2, ez0, ez1, ez2, el⟩ := FB.all E7
            have d0 := CB.c0 C7
            have d1 := CB.c1 C7
            have d2 := CB.c2 C7
            have d3 := CB.c3 C7
            have hpos : Y * h.W + X + 1 ≤ N := by
              have h1 := HYY.out.2
              have h2 := Nat.mul_le_mul_right h.W (show Y + 1 ≤ h.H by omega)
              rw [Nat.add_mul, Nat.one_mul, Nat.mul_comm h.H, HH.out.2.2.1] at h2
              omega
            obtain ⟨P, hPe⟩ : ∃ P, Y * h.W = P := ⟨_, rfl⟩
            rw [hPe] at hpos
            have hL3 : L3.length = P + X := by rw [HZ.out.1, hPe]
            have hpl : (pixL L3 (4 * N)).length = 4 * N := pixL_len (by omega)
            have HS0 := (rasSet_ways (c0 := c.r) (c1 := c.g) (c2 := c.b) (c3 := c.a) (i := 4 * (P + X)) I7.R I7.D I7.J.G I7.J.ok HR.out.2.2.1 hXW HYY.out.2 hPe rfl (by omega) HH.out.1.W.2 HH.out.1.H.2 (by rw [hpl]; omega) (by rw [hpl]; omega))
            have hov : over (pixL L3 (4 * N)) (4 * (P + X)) [c.r, c.g, c.b, c.a] = pixL (L3 ++ [c]) (4 * N) := by rw [← hL3]; exact pixL_next c (by omega)
            unfold SetPost at HS0
            rw [hov] at HS0
            have HS := Lib.hid HS0
            clear HS0
            have HI7 := Lib.hid I7
            have HL3 := Lib.hid (And.intro hL3 (And.intro hpos hPe))
            clear hov hpl hL3 hpos hPe I7 C7 E7
            go_upto_region 18 with fail
            clear e0 e1 e2 ez0 ez1 ez2 el
            go_wp2_with (go_at_call 60; refine HS.out.mono ?_; rintro e w8 ⟨y8, g8, ok8, yb8, hor⟩; rcases hor with ⟨rfl, t8, hno, run8⟩ | ⟨rfl, t8, D8, yr8, run8⟩)
            · have I8 : TRI w w8 p g (w.heap.size + 2) q r b d (w.heap.size + 1) s h N a' L3 y8 := HI7.out.set (t8.mono (by simp)) (HI7.out.D.turn t8 (by simpa using Blk.ne_ HI7.out.D.blk HI7.out.J.G (by decide)) (by simpa using Blk.ne_ HI7.out.D.row HI7.out.J.G (by decide))) g8 ok8
              have HI8 := Lib.hid I8
              have HN8 := Lib.hid (And.intro hno (And.intro run8 (And.intro ok8 yb8)))
              clear I8 hno run8 ok8 yb8 g8 t8
              go_wp2_with (go_at_call 43; refine (srcFault_spent 3 HI8.out.J.S HI8.out.J.G HN8.out.1).mono ?_; rintro e w9 ⟨rfl, b9⟩; have I9 := HI8.out.below b9; obtain ⟨f0, f1, f2, z0, z1, z2, fl⟩ := FB.all I9.F)
              have F10 : FB (st3 w9 (w.heap.size + 1) (.int .i64 4) (.int .i64 3) (.int .i64 (a' : Int))) (w.heap.size + 1) 4 3 (a' : Int) := FB.st3 I9.F
              obtain ⟨k0, k1, k2, _⟩ := FB.all F10
              have fin := I9.fin (u := .int .i64 4) (v := .int .i64 3) (e := .int .i64 (a' : Int)) hqw (by omega)
              change bodyPost _ _ _ _ _ (st3 w9 (w.heap.size + 1) (.int .i64 4) (.int .i64 3) (.int .i64 (a' : Int)))
              exact bodyPost_ret (v := .agg #[.int .i64 4, .int .i64 3, .int .i64 (a' : Int)]) (by simp [results, Tryz.results36, go_sem, k0, k1, k2]) rfl ⟨y8, pixL L3 (4 * N), fin.1, HN8.out.2.2.1, HN8.out.2.2.2.trans HR.out.2.2.2, fin.2.1, fin.2.2.1, fin.2.2.2, by rw [pixL_len (by have := pos_lt HZ.out.1 HYY.out.2 HXX.out.2 HH.out.2.2.1; omega), HH.out.2.2.1], .inl ⟨4, a', by decide, rfl, fun z => by rw [HZ.out.2.2.2.2.2, show N - L3.length = N - L3.length - 1 + 1 by have := pos_lt HZ.out.1 HYY.out.2 HXX.out.2 HH.out.2.2.1; omega]; exact (HR.out.1 z _).trans (HN8.out.2.1 z a' _)⟩⟩
            · have I8 := HI7.out.set t8 D8 g8 ok8
              have HI8 := Lib.hid I8
              have HN8 := Lib.hid (And.intro run8 (And.intro yr8 yb8))
              clear I8 run8 ok8 yb8 g8 t8 D8 yr8
              go_roundg (h.W - (X + 1))
              case measure => have := HXX.out; omega
              case rel =>
                have hlen := pos_lt HZ.out.1 HYY.out.2 HXX.out.2 HH.out.2.2.1
                refine ⟨X + 1, a', y8, L3 ++ [c], by have := HXX.out; omega, by go_num, Lib.hid ⟨by rw [List.length_append, List.length_singleton, HZ.out.1]; omega, HI8.out, HR.out.2.1, HN8.out.2.1, HN8.out.2.2.trans HR.out.2.2.2, fun z => ?_⟩⟩
                rw [HZ.out.2.2.2.2.2, show N - L3.length = N - L3.length - 1 + 1 by have := pos_lt HZ.out.1 HYY.out.2 HXX.out.2 HH.out.2.2.1; omega, show N - (L3 ++ [c]).length = N - L3.length - 1 by rw [List.length_append, List.length_singleton]; omega]
                exact (HR.out.1 z _).trans (HN8.out.1 z a' _)
        · have hXI : ¬ (X : Int) < (h.W : Int) := by omega
          have hXe : X = h.W := by omega
          have HXE := Lib.hid hXe
          clear hX hXe
          go_wp2_with fail
          go_roundg (h.H - (Y + 1))
          case measure => have := HYY.out; omega
          case rel => exact ⟨Y + 1, a3, y3, L3, by have := HYY.out; omega, by go_num, Lib.hid ⟨by rw [HZ.out.1, HXE.out, Nat.add_mul, Nat.one_mul], HZ.out.2⟩⟩
    · have hYI : ¬ (Y : Int) < (h.H : Int) := by omega
      have hLN : L.length = N := by rw [HX.out.1, show Y = h.H by omega, Nat.mul_comm]; exact HH.out.2.2.1
      have HLN := Lib.hid hLN
      have I9 := HX.out.2.1
      obtain ⟨f0, f1, f2, z0, z1, z2, fl⟩ := FB.all I9.F
      clear hY hLN
      go_wp2_with fail
      have F10 : FB (st3 wy (w.heap.size + 1) (.int .i64 0) (.int .i64 0) (.int .i64 0)) (w.heap.size + 1) 0 0 0 := FB.st3 I9.F
      obtain ⟨k0, k1, k2, _⟩ := FB.all F10
      have fin := I9.fin (u := .int .i64 0) (v := .int .i64 0) (e := .int .i64 0) hqw (by omega)
      change bodyPost _ _ _ _ _ (st3 wy (w.heap.size + 1) (.int .i64 0) (.int .i64 0) (.int .i64 0))
      exact bodyPost_ret (v := .agg #[.int .i64 0, .int .i64 0, .int .i64 0]) (by simp [results, Tryz.results36, go_sem, k0, k1, k2]) rfl ⟨y2, pixL L (4 * N), fin.1, I9.J.ok, HX.out.2.2.2.2.1, fin.2.1, fin.2.2.1, fin.2.2.2, by rw [pixL_len (by rw [HLN.out]; omega), HH.out.2.2.1], .inr ⟨rfl, HX.out.2.2.2.1, L, by rw [HLN.out, HH.out.2.2.1], pixL_all (by rw [HLN.out]), fun z => by rw [HX.out.2.2.2.2.2, HLN.out, Nat.sub_self]; rfl⟩⟩
set_option maxRecDepth 100000 in
set_option maxHeartbeats 8000000 in
theorem txtRead_two {w : World} {p g r b d : Nat} {s : ByteArray} {h : HeadR} {y : Led} (hh : HeadOk s h) (hsm : s.size ≤ 1099511627776) (hK : h.K ≤ 3) (hk1 : h.K ≠ 1) (hk3 : h.K ≠ 3) (S0 : SrcAt w p g s 0 s.size h.At) (G0 : LedAt w g y) (R0 : RasAt w r g b (h.W : Int) (h.H : Int) true) (D0 : BufAt w b g d (pixL [] (4 * (h.W * h.H)))) (ok : y.Ok) (hr : y.reason = 0) :
    Calls Tryz.prog 36 #[.pointer (some ⟨p, 0, none⟩), headV5 h, .pointer (some ⟨r, 0, none⟩)] w fun e w' => BodyPost w w' p g r b d s h y e := by
  have hmf : ∀ (fn : Fn) (first cap : Array Value) (w : World), (Instr.makeFunc fn first cap).run Tryz.prog w = .ok (.func fn first cap) w := fun _ _ _ _ => rfl
  obtain ⟨N, hN⟩ : ∃ N, h.W * h.H = N := ⟨_, rfl⟩
  have hP : N ≤ 268435456 := by rw [← hN]; exact Nat.mul_le_mul hh.W.2 hh.H.2
  rw [hN] at D0
  have u3 : Below w.heap.size w (((w.alloc (.cells #[.int .i64 (h.K : Int), .int .i64 (h.W : Int), .int .i64 (h.H : Int), .int .i64 (h.M : Int), .int .i64 (h.At : Int)] 61)).alloc (.cells #[.int .i64 0, .int .i64 0, .int .i64 0] 33)).alloc (.cells #[.pointer (some ⟨p, 0, none⟩), .int .i64 (h.K : Int), .int .i64 (h.W : Int), .int .i64 (h.H : Int), .int .i64 (h.M : Int), .int .i64 (h.At : Int), .pointer none] 115)) := (((Below.refl _ _).alloc (Nat.le_refl _) _).alloc (by simp) _).alloc (by simp; omega) _
  have S3 := Blk.below S0 u3 (Blk.lt S0)
  have G3 := Blk.below G0 u3 (Blk.lt G0)
  have R3 := Blk.below R0 u3 (Blk.lt R0)
  have D3 : BufAt (((w.alloc (.cells #[.int .i64 (h.K : Int), .int .i64 (h.W : Int), .int .i64 (h.H : Int), .int .i64 (h.M : Int), .int .i64 (h.At : Int)] 61)).alloc (.cells #[.int .i64 0, .int .i64 0, .int .i64 0] 33)).alloc (.cells #[.pointer (some ⟨p, 0, none⟩), .int .i64 (h.K : Int), .int .i64 (h.W : Int), .int .i64 (h.H : Int), .int .i64 (h.M : Int), .int .i64 (h.At : Int), .pointer none] 115)) b g d (pixL [] (4 * N)) := ⟨Blk.below D0.blk u3 (Blk.lt D0.blk), Blk.below D0.row u3 (Blk.lt D0.row)⟩
  have H3 : Blk (((w.alloc (.cells #[.int .i64 (h.K : Int), .int .i64 (h.W : Int), .int .i64 (h.H : Int), .int .i64 (h.M : Int), .int .i64 (h.At : Int)] 61)).alloc (.cells #[.int .i64 0, .int .i64 0, .int .i64 0] 33)).alloc (.cells #[.pointer (some ⟨p, 0, none⟩), .int .i64 (h.K : Int), .int .i64 (h.W : Int), .int .i64 (h.H : Int), .int .i64 (h.M : Int), .int .i64 (h.At : Int), .pointer none] 115)) w.heap.size 61 #[.int .i64 (h.K : Int), .int .i64 (h.W : Int), .int .i64 (h.H : Int), .int .i64 (h.M : Int), .int .i64 (h.At : Int)] := Blk.alloc (Blk.alloc (Blk.new _ _ _) _) _
  have F3 : FB (((w.alloc (.cells #[.int .i64 (h.K : Int), .int .i64 (h.W : Int), .int .i64 (h.H : Int), .int .i64 (h.M : Int), .int .i64 (h.At : Int)] 61)).alloc (.cells #[.int .i64 0, .int .i64 0, .int .i64 0] 33)).alloc (.cells #[.pointer (some ⟨p, 0, none⟩), .int .i64 (h.K : Int), .int .i64 (h.W : Int), .int .i64 (h.H : Int), .int .i64 (h.M : Int), .int .i64 (h.At : Int), .pointer none] 115)) (w.heap.size + 1) 0 0 0 := Blk.alloc (Blk.new_at _ _ _ (by simp)) _
  have X3 : Blk (((w.alloc (.cells #[.int .i64 (h.K : Int), .int .i64 (h.W : Int), .int .i64 (h.H : Int), .int .i64 (h.M : Int), .int .i64 (h.At : Int)] 61)).alloc (.cells #[.int .i64 0, .int .i64 0, .int .i64 0] 33)).alloc (.cells #[.pointer (some ⟨p, 0, none⟩), .int .i64 (h.K : Int), .int .i64 (h.W : Int), .int .i64 (h.H : Int), .int .i64 (h.M : Int), .int .i64 (h.At : Int), .pointer none] 115)) (w.heap.size + 2) 115 #[.pointer (some ⟨p, 0, none⟩), .int .i64 (h.K : Int), .int .i64 (h.W : Int), .int .i64 (h.H : Int), .int .i64 (h.M : Int), .int .i64 (h.At : Int), .pointer none] := Blk.new_at _ _ _ (by simp)
  have hdw : d < w.heap.size := Blk.lt D0.row
  have HH := Lib.hid (And.intro hh (And.intro hsm (And.intro hN (And.intro ok (And.intro hr (And.intro hP hK))))))
  have HQ := Lib.hid (fun w => sclNew_open h.M w hh.M.1 hh.M.2)
  have HK1 := Lib.hid (And.intro hk1 hk3)
  clear hk1 hk3
  unfold headV5
  clear S0 G0 R0 D0 hN ok hr hh hsm hK
  go_enter Tryz.func36, Tryz.ntmps36
  go_upto_region 2 with fail
  generalize (((w.alloc (.cells #[.int .i64 (h.K : Int), .int .i64 (h.W : Int), .int .i64 (h.H : Int), .int .i64 (h.M : Int), .int .i64 (h.At : Int)] 61)).alloc (.cells #[.int .i64 0, .int .i64 0, .int .i64 0] 33)).alloc (.cells #[.pointer (some ⟨p, 0, none⟩), .int .i64 (h.K : Int), .int .i64 (h.W : Int), .int .i64 (h.H : Int), .int .i64 (h.M : Int), .int .i64 (h.At : Int), .pointer none] 115)) = w3 at u3 S3 G3 R3 D3 H3 F3 X3 ⊢
  have h0 : w3.cell? ⟨w.heap.size, 0, none⟩ = some (.int .i64 (h.K : Int)) := Blk.cell H3 0
  have h1 : w3.cell? ⟨w.heap.size, 1, none⟩ = some (.int .i64 (h.W : Int)) := Blk.cell H3 1
  have h2 : w3.cell? ⟨w.heap.size, 2, none⟩ = some (.int .i64 (h.H : Int)) := Blk.cell H3 2
  have h3 : w3.cell? ⟨w.heap.size, 3, none⟩ = some (.int .i64 (h.M : Int)) := Blk.cell H3 3
  have HB := Lib.hid (And.intro u3 (And.intro S3 (And.intro G3 (And.intro R3 (And.intro D3 (And.intro H3 (And.intro F3 X3)))))))
  clear u3 S3 G3 R3 D3 H3 F3 X3
  go_upto_region 3 with (go_at_call 56; refine (HQ.out _).mono ?_; rintro e w4 ⟨q, rfl, hqn, hso, b4⟩; have X4 : Blk w4 (w.heap.size + 2) 115 #[.pointer (some ⟨p, 0, none⟩), .int .i64 (h.K : Int), .int .i64 (h.W : Int), .int .i64 (h.H : Int), .int .i64 (h.M : Int), .int .i64 (h.At : Int), .pointer none] := Blk.below HB.out.2.2.2.2.2.2.2 b4 (Blk.lt HB.out.2.2.2.2.2.2.2); have x6 : w4.cell? ⟨w.heap.size + 2, 6, none⟩ = some (.pointer none) := Blk.cell X4 6; have xz : w4.frozen? ⟨w.heap.size + 2, 6, none⟩ = false := Blk.frozen X4 6; have xl := Blk.lt X4)
  have hqd : w.heap.size + 2 < q := Nat.lt_of_lt_of_le (Blk.lt HB.out.2.2.2.2.2.2.2) hqn
  have hx2 : ∀ k, k ≠ w.heap.size + 2 → w.heap.size + 2 ≠ k := fun k hk => hk.symm
  have I5 : TRI w (w4.setCell ⟨w.heap.size + 2, 6, none⟩ (.pointer (some ⟨q, 0, none⟩))) p g (w.heap.size + 2) q r b d (w.heap.size + 1) s h N h.At [] y := by
    have B := HB.out
    have S4 := Blk.below B.2.1 b4 (Blk.lt B.2.1)
    have G4 := Blk.below B.2.2.1 b4 (Blk.lt B.2.2.1)
    have R4 := Blk.below B.2.2.2.1 b4 (Blk.lt B.2.2.2.1)
    have D4b := Blk.below B.2.2.2.2.1.blk b4 (Blk.lt B.2.2.2.2.1.blk)
    have D4r := Blk.below B.2.2.2.2.1.row b4 (Blk.lt B.2.2.2.2.1.row)
    have H4 := Blk.below B.2.2.2.2.2.1 b4 (Blk.lt B.2.2.2.2.2.1)
    have F4 : FB w4 (w.heap.size + 1) 0 0 0 := Blk.below B.2.2.2.2.2.2.1 b4 (Blk.lt B.2.2.2.2.2.2.1)
    refine ⟨⟨Blk.far S4 (p := ⟨w.heap.size + 2, 6, none⟩) (Blk.ne_ S4 X4 (by decide)) _, Blk.far G4 (p := ⟨w.heap.size + 2, 6, none⟩) (Blk.ne_ G4 X4 (by decide)) _, (Blk.set_ X4 6 _).eq_ (by simp), .inl (Blk.far hso (p := ⟨w.heap.size + 2, 6, none⟩) (show q ≠ w.heap.size + 2 by omega) _), Turn.refl _ _, fun i hi => ?_, HH.out.2.2.2.1⟩, Blk.far R4 (p := ⟨w.heap.size + 2, 6, none⟩) (Blk.ne_ R4 X4 (by decide)) _, ⟨Blk.far D4b (p := ⟨w.heap.size + 2, 6, none⟩) (Blk.ne_ D4b X4 (by decide)) _, Blk.far D4r (p := ⟨w.heap.size + 2, 6, none⟩) (Blk.ne_ D4r X4 (by decide)) _⟩, Blk.far F4 (p := ⟨w.heap.size + 2, 6, none⟩) (Blk.ne_ F4 X4 (by decide)) _, Blk.far H4 (p := ⟨w.heap.size + 2, 6, none⟩) (Blk.ne_ H4 X4 (by decide)) _, (Turn.of_below (below_next B.1 b4)).set_ 6 _ (.inr (by omega))⟩
    simp only [List.mem_cons, List.not_mem_nil, or_false] at hi
    subst hi
    simp
    omega
  clear h0 h1 h2 h3 x6 xz xl X4 hso hx2 HQ
  generalize w4.setCell ⟨w.heap.size + 2, 6, none⟩ (.pointer (some ⟨q, 0, none⟩)) = w5 at I5 ⊢
  have hqw : w.heap.size ≤ q := by omega
  clear hqn b4 HB
  have h0 : w5.cell? ⟨w.heap.size, 0, none⟩ = some (.int .i64 (h.K : Int)) := Blk.cell I5.U 0
  have h2 : w5.cell? ⟨w.heap.size, 2, none⟩ = some (.int .i64 (h.H : Int)) := Blk.cell I5.U 2
  have HI5 := Lib.hid I5
  clear I5
  have k1 : ((h.K : Int) == 1) = false := beq_eq_false_iff_ne.2 (by have := HK1.out.1; omega)
  have k3 : ((h.K : Int) == 3) = false := beq_eq_false_iff_ne.2 (by have := HK1.out.2; omega)
  go_upto_region 10 with fail
  clear h0 h2 k1 k3
  go_loopg [40] h.H (fun k v40 wr => ∃ (Y a2 : Nat) (y2 : Led) (L : List Qc), Y + k = h.H ∧ v40 = .int .i64 (Y : Int) ∧ Hid (L.length = Y * h.W ∧ TRI w wr p g (w.heap.size + 2) q r b d (w.heap.size + 1) s h N a2 L y2 ∧ a2 ≤ s.size ∧ y2.reason = 0 ∧ y2.bytes = y.bytes ∧ ∀ z, (bodyD s h z).run y = (pixsD h.W h.H z (tpixD s h.K h.M z) (fun n => n) (N - L.length) a2 L).run y2))
  case atStart => exact ⟨0, h.At, y, [], by omega, rfl, Lib.hid ⟨by simp, HI5.out, HH.out.1.At, HH.out.2.2.2.2.1, rfl, fun z => by unfold bodyD; rw [if_pos HH.out.2.2.2.2.2.2, HH.out.2.2.1]; rfl⟩⟩
  case round =>
    clear HI5
    obtain ⟨Y, a2, y2, L, hY, rfl, HX⟩ := hrel
    obtain ⟨wy, hwy⟩ : ∃ v, v = wr := ⟨_, rfl⟩
    subst hwy
    have hH1 : h.H ≤ 16384 := HH.out.1.H.2
    have hW1 : h.W ≤ 16384 := HH.out.1.W.2
    by_cases hYH : Y < h.H
    · have hYI : (Y : Int) < (h.H : Int) := by omega
      have HYY := Lib.hid (And.intro hY hYH)
      have h1 : wy.cell? ⟨w.heap.size, 1, none⟩ = some (.int .i64 (h.W : Int)) := Blk.cell HX.out.2.1.U 1
      clear hY
      go_upto_region 13 with fail
      clear h1
      go_loopg [45] h.W (fun k v45 wr => ∃ (X a3 : Nat) (y3 : Led) (L3 : List Qc), X + k = h.W ∧ v45 = .int .i64 (X : Int) ∧ Hid (L3.length = Y * h.W + X ∧ TRI w wr p g (w.heap.size + 2) q r b d (w.heap.size + 1) s h N a3 L3 y3 ∧ a3 ≤ s.size ∧ y3.reason = 0 ∧ y3.bytes = y.bytes ∧ ∀ z, (bodyD s h z).run y = (pixsD h.W h.H z (tpixD s h.K h.M z) (fun n => n) (N - L3.length) a3 L3).run y3))
      case atStart => exact ⟨0, a2, y2, L, by omega, rfl, Lib.hid ⟨by rw [HX.out.1]; rfl, HX.out.2⟩⟩
      case round =>
        clear HX
        obtain ⟨X, a3, y3, L3, hX, rfl, HZ⟩ := hrel
        by_cases hXW : X < h.W
        · have hXI : (X : Int) < (h.W : Int) := by omega
          have HXX := Lib.hid (And.intro hX hXW)
          have HP0 := (tgrayC HZ.out.2.1.J HZ.out.2.2.1 HH.out.2.1 HH.out.1.M HZ.out.2.2.2.1).mono fun e w' hp => hp.to (D' := fun z k => tpixD s h.K h.M z a3 k) (fun z k => tpixD_two HK1.out.1 HK1.out.2)
          unfold PixPost Qc.v at HP0
          have HP := Lib.hid HP0
          clear HP0
          clear hX
          go_upto_region 16 with (go_at_call 57; refine HP.out.mono ?_; rintro e w6 ⟨y6, yb6, hor⟩; rcases hor with ⟨kk, aa, c0, c1, c2, c3, hk, yok, rfl, L6, run⟩ | ⟨c, a', rfl, ha', J6, yr, run⟩)
          · have A6 : TRI w wr p g (w.heap.size + 2) q r b d (w.heap.size + 1) s h N a3 L3 y3 := HZ.out.2.1
            obtain ⟨cq, hbq⟩ := A6.J.Q.blk
            have T6 := L6.2.2
            have N6 : ∀ {k : Nat} {t : TypeId} {cs : Array Value}, Blk wr k t cs → t ≠ 96 → t ≠ 94 → t ≠ 139 → k ∉ [p, g, q] := fun hb e1 e2 e3 => by
              simp only [List.mem_cons, List.not_mem_nil, or_false, not_or]
              exact ⟨Blk.ne_ hb A6.J.S e1, Blk.ne_ hb A6.J.G e2, Blk.ne_ hb hbq e3⟩
            have F7 : FB ((w6.alloc (.cells #[.int .u8 c0, .int .u8 c1, .int .u8 c2, .int .u8 c3] 48)).alloc (.cells #[.int .i64 (kk : Int), .int .i64 3, .int .i64 (aa : Int)] 33)) (w.heap.size + 1) 0 0 0 := Blk.alloc (Blk.alloc (FB.turn A6.F T6 (N6 A6.F (by decide) (by decide) (by decide))) _) _
            have E7 : FB ((w6.alloc (.cells #[.int .u8 c0, .int .u8 c1, .int .u8 c2, .int .u8 c3] 48)).alloc (.cells #[.int .i64 (kk : Int), .int .i64 3, .int .i64 (aa : Int)] 33)) (w6.heap.size + 1) (kk : Int) 3 (aa : Int) := Blk.new_at _ _ _ (by simp)
            have hfe : w.heap.size + 1 < w6.heap.size := Blk.lt (FB.turn A6.F T6 (N6 A6.F (by decide) (by decide) (by decide)))
            have K7 : LedAt ((w6.alloc (.cells #[.int .u8 c0, .int .u8 c1, .int .u8 c2, .int .u8 c3] 48)).alloc (.cells #[.int .i64 (kk : Int), .int .i64 3, .int .i64 (aa : Int)] 33)) g y6 ∧ Turn [p, g, q, d] w ((w6.alloc (.cells #[.int .u8 c0, .int .u8 c1, .int .u8 c2, .int .u8 c3] 48)).alloc (.cells #[.int .i64 (kk : Int), .int .i64 3, .int .i64 (aa : Int)] 33)) ∧ RasAt ((w6.alloc (.cells #[.int .u8 c0, .int .u8 c1, .int .u8 c2, .int .u8 c3] 48)).alloc (.cells #[.int .i64 (kk : Int), .int .i64 3, .int .i64 (aa : Int)] 33)) r g b (h.W : Int) (h.H : Int) true ∧ BufAt ((w6.alloc (.cells #[.int .u8 c0, .int .u8 c1, .int .u8 c2, .int .u8 c3] 48)).alloc (.cells #[.int .i64 (kk : Int), .int .i64 3, .int .i64 (aa : Int)] 33)) b g d (pixL L3 (4 * N)) :=
              ⟨Blk.alloc (Blk.alloc L6.1 _) _, ((A6.T.trans (T6.mono (by simp))).alloc _).alloc _, Blk.alloc (Blk.alloc (Blk.turn A6.R T6 (N6 A6.R (by decide) (by decide) (by decide))) _) _, ⟨Blk.alloc (Blk.alloc (Blk.turn A6.D.blk T6 (N6 A6.D.blk (by decide) (by decide) (by decide))) _) _, Blk.alloc (Blk.alloc (Blk.turn A6.D.row T6 (N6 A6.D.row (by decide) (by decide) (by decide))) _) _⟩⟩
            have HR := Lib.hid (And.intro run (And.intro hk (And.intro yok yb6)))
            have hki : ((kk : Int) != 0) = true := bne_iff_ne.2 (by omega)
            clear A6 L6 T6 N6 run hk yok yb6 HP hbq
            generalize (w6.alloc (.cells #[.int .u8 c0, .int .u8 c1, .int .u8 c2, .int .u8 c3] 48)).alloc (.cells #[.int .i64 (kk : Int), .int .i64 3, .int .i64 (aa : Int)] 33) = w7 at F7 E7 K7 ⊢
            generalize w6.heap.size = q8 at E7 hfe ⊢
            have hne : w.heap.size + 1 ≠ q8 + 1 := by omega
            have hne' := hne.symm
            have HK := Lib.hid K7
            clear K7
            obtain ⟨f0, f1, f2, z0, z1, z2, fl⟩ := FB.all F7
            obtain ⟨e0, e1, e2, ez0, ez1, ez2, el⟩ := FB.all E7
            go_wp2_with fail
            have F8 : FB (st3 w7 (w.heap.size + 1) (.int .i64 (kk : Int)) (.int .i64 3) (.int .i64 (aa : Int))) (w.heap.size + 1) (kk : Int) 3 (aa : Int) := FB.st3 F7
            obtain ⟨k0, k1, k2, _⟩ := FB.all F8
            change bodyPost _ _ _ _ _ (st3 w7 (w.heap.size + 1) (.int .i64 (kk : Int)) (.int .i64 3) (.int .i64 (aa : Int)))
            exact bodyPost_ret (v := .agg #[.int .i64 (kk : Int), .int .i64 3, .int .i64 (aa : Int)]) (by simp [results, Tryz.results36, go_sem, k0, k1, k2]) rfl ⟨y6, pixL L3 (4 * N), Blk.st3 HK.out.1 (Blk.ne_ HK.out.1 F7 (by decide)), HR.out.2.2.1, HR.out.2.2.2.trans HZ.out.2.2.2.2.1, Turn.st3 ⟨HK.out.2.1.os, HK.out.2.1.tape, HK.out.2.1.output, HK.out.2.1.size, fun i hi hn => HK.out.2.1.block i hi (by simp only [List.mem_cons, List.not_mem_nil, or_false, not_or] at hn ⊢; exact ⟨hn.1, hn.2.1, by omega, hn.2.2⟩)⟩ (.inr (by omega)), Blk.st3 HK.out.2.2.1 (Blk.ne_ HK.out.2.2.1 F7 (by decide)), ⟨Blk.st3 HK.out.2.2.2.blk (Blk.ne_ HK.out.2.2.2.blk F7 (by decide)), Blk.st3 HK.out.2.2.2.row (Blk.ne_ HK.out.2.2.2.row F7 (by decide))⟩, by rw [pixL_len (by have := pos_lt HZ.out.1 HYY.out.2 HXX.out.2 HH.out.2.2.1; omega), HH.out.2.2.1], .inl ⟨kk, aa, HR.out.2.1, rfl, fun z => by rw [HZ.out.2.2.2.2.2, show N - L3.length = N - L3.length - 1 + 1 by have := pos_lt HZ.out.1 HYY.out.2 HXX.out.2 HH.out.2.2.1; omega]; exact HR.out.1 z _⟩⟩
          · have I7 := ((HZ.out.2.1.pix J6).alloc (.cells #[.int .u8 (c.r.toNat : Int), .int .u8 (c.g.toNat : Int), .int .u8 (c.b.toNat : Int), .int .u8 (c.a.toNat : Int)] 48)).alloc (.cells #[.int .i64 0, .int .i64 0, .int .i64 0] 33)
            have C7 : CB ((w6.alloc (.cells #[.int .u8 (c.r.toNat : Int), .int .u8 (c.g.toNat : Int), .int .u8 (c.b.toNat : Int), .int .u8 (c.a.toNat : Int)] 48)).alloc (.cells #[.int .i64 0, .int .i64 0, .int .i64 0] 33)) w6.heap.size (c.r.toNat : Int) (c.g.toNat : Int) (c.b.toNat : Int) (c.a.toNat : Int) := Blk.alloc (Blk.new _ _ _) _
            have E7 : FB ((w6.alloc (.cells #[.int .u8 (c.r.toNat : Int), .int .u8 (c.g.toNat : Int), .int .u8 (c.b.toNat : Int), .int .u8 (c.a.toNat : Int)] 48)).alloc (.cells #[.int .i64 0, .int .i64 0, .int .i64 0] 33)) (w6.heap.size + 1) 0 0 0 := Blk.new_at _ _ _ (by simp)
            have HR := Lib.hid (And.intro run (And.intro ha' (And.intro yr (yb6.trans HZ.out.2.2.2.2.1))))
            clear run ha' yr yb6 J6 HP
            generalize (w6.alloc (.cells #[.int .u8 (c.r.toNat : Int), .int .u8 (c.g.toNat : Int), .int .u8 (c.b.toNat : Int), .int .u8 (c.a.toNat : Int)] 48)).alloc (.cells #[.int .i64 0, .int .i64 0, .int .i64 0] 33) = w7 at I7 C7 E7 ⊢
            generalize w6.heap.size = q8 at C7 E7 ⊢
            obtain ⟨e0, e1, e2, ez0, ez1, ez2, el⟩ := FB.all E7
            have d0 := CB.c0 C7
            have d1 := CB.c1 C7
            have d2 := CB.c2 C7
            have d3 := CB.c3 C7
            have hpos : Y * h.W + X + 1 ≤ N := by
              have h1 := HYY.out.2
              have h2 := Nat.mul_le_mul_right h.W (show Y + 1 ≤ h.H by omega)
              rw [Nat.add_mul, Nat.one_mul, Nat.mul_comm h.H, HH.out.2.2.1] at h2
              omega
            obtain ⟨P, hPe⟩ : ∃ P, Y * h.W = P := ⟨_, rfl⟩
            rw [hPe] at hpos
            have hL3 : L3.length = P + X := by rw [HZ.out.1, hPe]
            have hpl : (pixL L3 (4 * N)).length = 4 * N := pixL_len (by omega)
            have HS0 := (rasSet_ways (c0 := c.r) (c1 := c.g) (c2 := c.b) (c3 := c.a) (i := 4 * (P + X)) I7.R I7.D I7.J.G I7.J.ok HR.out.2.2.1 hXW HYY.out.2 hPe rfl (by omega) HH.out.1.W.2 HH.out.1.H.2 (by rw [hpl]; omega) (by rw [hpl]; omega))
            have hov : over (pixL L3 (4 * N)) (4 * (P + X)) [c.r, c.g, c.b, c.a] = pixL (L3 ++ [c]) (4 * N) := by rw [← hL3]; exact pixL_next c (by omega)
            unfold SetPost at HS0
            rw [hov] at HS0
            have HS := Lib.hid HS0
            clear HS0
            have HI7 := Lib.hid I7
            have HL3 := Lib.hid (And.intro hL3 (And.intro hpos hPe))
            clear hov hpl hL3 hpos hPe I7 C7 E7
            go_upto_region 18 with fail
            clear e0 e1 e2 ez0 ez1 ez2 el
            go_wp2_with (go_at_call 60; refine HS.out.mono ?_; rintro e w8 ⟨y8, g8, ok8, yb8, hor⟩; rcases hor with ⟨rfl, t8, hno, run8⟩ | ⟨rfl, t8, D8, yr8, run8⟩)
            · have I8 : TRI w w8 p g (w.heap.size + 2) q r b d (w.heap.size + 1) s h N a' L3 y8 := HI7.out.set (t8.mono (by simp)) (HI7.out.D.turn t8 (by simpa using Blk.ne_ HI7.out.D.blk HI7.out.J.G (by decide)) (by simpa using Blk.ne_ HI7.out.D.row HI7.out.J.G (by decide))) g8 ok8
              have HI8 := Lib.hid I8
              have HN8 := Lib.hid (And.intro hno (And.intro run8 (And.intro ok8 yb8)))
              clear I8 hno run8 ok8 yb8 g8 t8
              go_wp2_with (go_at_call 43; refine (srcFault_spent 3 HI8.out.J.S HI8.out.J.G HN8.out.1).mono ?_; rintro e w9 ⟨rfl, b9⟩; have I9 := HI8.out.below b9; obtain ⟨f0, f1, f2, z0, z1, z2, fl⟩ := FB.all I9.F)
              have F10 : FB (st3 w9 (w.heap.size + 1) (.int .i64 4) (.int .i64 3) (.int .i64 (a' : Int))) (w.heap.size + 1) 4 3 (a' : Int) := FB.st3 I9.F
              obtain ⟨k0, k1, k2, _⟩ := FB.all F10
              have fin := I9.fin (u := .int .i64 4) (v := .int .i64 3) (e := .int .i64 (a' : Int)) hqw (by omega)
              change bodyPost _ _ _ _ _ (st3 w9 (w.heap.size + 1) (.int .i64 4) (.int .i64 3) (.int .i64 (a' : Int)))
              exact bodyPost_ret (v := .agg #[.int .i64 4, .int .i64 3, .int .i64 (a' : Int)]) (by simp [results, Tryz.results36, go_sem, k0, k1, k2]) rfl ⟨y8, pixL L3 (4 * N), fin.1, HN8.out.2.2.1, HN8.out.2.2.2.trans HR.out.2.2.2, fin.2.1, fin.2.2.1, fin.2.2.2, by rw [pixL_len (by have := pos_lt HZ.out.1 HYY.out.2 HXX.out.2 HH.out.2.2.1; omega), HH.out.2.2.1], .inl ⟨4, a', by decide, rfl, fun z => by rw [HZ.out.2.2.2.2.2, show N - L3.length = N - L3.length - 1 + 1 by have := pos_lt HZ.out.1 HYY.out.2 HXX.out.2 HH.out.2.2.1; omega]; exact (HR.out.1 z _).trans (HN8.out.2.1 z a' _)⟩⟩
            · have I8 := HI7.out.set t8 D8 g8 ok8
              have HI8 := Lib.hid I8
              have HN8 := Lib.hid (And.intro run8 (And.intro yr8 yb8))
              clear I8 run8 ok8 yb8 g8 t8 D8 yr8
              go_roundg (h.W - (X + 1))
              case measure => have := HXX.out; omega
              case rel =>
                have hlen := pos_lt HZ.out.1 HYY.out.2 HXX.out.2 HH.out.2.2.1
                refine ⟨X + 1, a', y8, L3 ++ [c], by have := HXX.out; omega, by go_num, Lib.hid ⟨by rw [List.length_append, List.length_singleton, HZ.out.1]; omega, HI8.out, HR.out.2.1, HN8.out.2.1, HN8.out.2.2.trans HR.out.2.2.2, fun z => ?_⟩⟩
                rw [HZ.out.2.2.2.2.2, show N - L3.length = N - L3.length - 1 + 1 by have := pos_lt HZ.out.1 HYY.out.2 HXX.out.2 HH.out.2.2.1; omega, show N - (L3 ++ [c]).length = N - L3.length - 1 by rw [List.length_append, List.length_singleton]; omega]
                exact (HR.out.1 z _).trans (HN8.out.1 z a' _)
        · have hXI : ¬ (X : Int) < (h.W : Int) := by omega
          have hXe : X = h.W := by omega
          have HXE := Lib.hid hXe
          clear hX hXe
          go_wp2_with fail
          go_roundg (h.H - (Y + 1))
          case measure => have := HYY.out; omega
          case rel => exact ⟨Y + 1, a3, y3, L3, by have := HYY.out; omega, by go_num, Lib.hid ⟨by rw [HZ.out.1, HXE.out, Nat.add_mul, Nat.one_mul], HZ.out.2⟩⟩
    · have hYI : ¬ (Y : Int) < (h.H : Int) := by omega
      have hLN : L.length = N := by rw [HX.out.1, show Y = h.H by omega, Nat.mul_comm]; exact HH.out.2.2.1
      have HLN := Lib.hid hLN
      have I9 := HX.out.2.1
      obtain ⟨f0, f1, f2, z0, z1, z2, fl⟩ := FB.all I9.F
      clear hY hLN
      go_wp2_with fail
      have F10 : FB (st3 wy (w.heap.size + 1) (.int .i64 0) (.int .i64 0) (.int .i64 0)) (w.heap.size + 1) 0 0 0 := FB.st3 I9.F
      obtain ⟨k0, k1, k2, _⟩ := FB.all F10
      have fin := I9.fin (u := .int .i64 0) (v := .int .i64 0) (e := .int .i64 0) hqw (by omega)
      change bodyPost _ _ _ _ _ (st3 wy (w.heap.size + 1) (.int .i64 0) (.int .i64 0) (.int .i64 0))
      exact bodyPost_ret (v := .agg #[.int .i64 0, .int .i64 0, .int .i64 0]) (by simp [results, Tryz.results36, go_sem, k0, k1, k2]) rfl ⟨y2, pixL L (4 * N), fin.1, I9.J.ok, HX.out.2.2.2.2.1, fin.2.1, fin.2.2.1, fin.2.2.2, by rw [pixL_len (by rw [HLN.out]; omega), HH.out.2.2.1], .inr ⟨rfl, HX.out.2.2.2.1, L, by rw [HLN.out, HH.out.2.2.1], pixL_all (by rw [HLN.out]), fun z => by rw [HX.out.2.2.2.2.2, HLN.out, Nat.sub_self]; rfl⟩⟩
theorem txtReadC {w : World} {p g r b d : Nat} {s : ByteArray} {h : HeadR} {y : Led} (hh : HeadOk s h) (hsm : s.size ≤ 1099511627776) (hK : h.K ≤ 3) (S0 : SrcAt w p g s 0 s.size h.At) (G0 : LedAt w g y) (R0 : RasAt w r g b (h.W : Int) (h.H : Int) true) (D0 : BufAt w b g d (pixL [] (4 * (h.W * h.H)))) (ok : y.Ok) (hr : y.reason = 0) :
    Calls Tryz.prog 36 #[.pointer (some ⟨p, 0, none⟩), headV5 h, .pointer (some ⟨r, 0, none⟩)] w fun e w' => BodyPost w w' p g r b d s h y e := by
  by_cases h1 : h.K = 1
  · exact txtRead_one hh hsm hK h1 S0 G0 R0 D0 ok hr
  · by_cases h3 : h.K = 3
    · exact txtRead_three hh hsm hK h3 S0 G0 R0 D0 ok hr
    · exact txtRead_two hh hsm hK h1 h3 S0 G0 R0 D0 ok hr
end Go.Proofs.YthljhebbblhakaaGreatDoor
