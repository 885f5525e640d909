/- pnmraw's samples.pixel by whatever budget. -/
import Derived.Test.YthljhebbblhakaaGreatDoorEPnmN
namespace Go.Proofs.YthljhebbblhakaaGreatDoor
open Go.RowKit
set_option linter.unusedVariables false
set_option linter.unusedSimpArgs false

/-- what a reading of a pixel leaves -/
def RixPost (w w' : World) (p g x q : Nat) (s : ByteArray) (h : HeadR) (av : List Nat) (y : Led) (e : Ending) (D : Nat → (Qc × Nat → Dec) → Dec) : Prop :=
  ∃ y', y'.bytes = y.bytes ∧
    ((∃ (kk aa : Nat) (c0 c1 c2 c3 : Int), kk ≠ 0 ∧ y'.Ok ∧ e = .returned (.tuple #[.agg #[.int .u8 c0, .int .u8 c1, .int .u8 c2, .int .u8 c3], .agg #[.int .i64 (kk : Int), .int .i64 3, .int .i64 (aa : Int)]]) ∧ (LedAt w' g y' ∧ SclA w' q h.M av ∧ Turn [p, g, q] w w') ∧ ∀ (z : Nat) k, (D z k).run y = ((y'.give (z : Int)).1, .bad kk aa)) ∨
     (∃ (c : Qc) (a' : Nat), e = .returned (.tuple #[c.v, .agg #[.int .i64 0, .int .i64 0, .int .i64 0]]) ∧ a' ≤ s.size ∧ RXI w w' p g x q s h av a' y' ∧ y'.reason = 0 ∧ ∀ (z : Nat) k, (D z k).run y = (k (c, a')).run y'))
theorem RXI.to_ {w0 w1 w : World} {p g x q : Nat} {s : ByteArray} {h : HeadR} {av : List Nat} {a : Nat} {y : Led} (I : RXI w1 w p g x q s h av a y) (k : Turn [p, g, q] w0 w1) : RXI w0 w p g x q s h av a y := ⟨I.S, I.G, I.X, I.Q, k.trans I.T, I.av, I.ok⟩
/-- three bytes -/
def AB (w : World) (b : Nat) (a0 a1 a2 : Int) : Prop := Blk w b 151 #[.int .u8 a0, .int .u8 a1, .int .u8 a2]
theorem AB.set_ {w : World} {b i : Nat} {a0 a1 a2 b0 b1 b2 v : Int} (h : AB w b a0 a1 a2) (e : (#[Value.int .u8 a0, .int .u8 a1, .int .u8 a2] : Array Value).setIfInBounds i (.int .u8 v) = #[.int .u8 b0, .int .u8 b1, .int .u8 b2]) : AB (w.setCell ⟨b, i, none⟩ (.int .u8 v)) b b0 b1 b2 := (Blk.set_ h i _).eq_ e
theorem AB.all {w : World} {b : Nat} {a0 a1 a2 : Int} (h : AB w b a0 a1 a2) : w.cell? ⟨b, 0, none⟩ = some (.int .u8 a0) ∧ w.cell? ⟨b, 1, none⟩ = some (.int .u8 a1) ∧ w.cell? ⟨b, 2, none⟩ = some (.int .u8 a2) ∧ w.frozen? ⟨b, 0, none⟩ = false ∧ w.frozen? ⟨b, 1, none⟩ = false ∧ w.frozen? ⟨b, 2, none⟩ = false ∧ b < w.heap.size :=
  ⟨Blk.cell h 0, Blk.cell h 1, Blk.cell h 2, Blk.frozen h 0, Blk.frozen h 1, Blk.frozen h 2, Blk.lt h⟩
theorem opaqueC (a b c : UInt8) (w : World) : Calls Tryz.prog 87 #[.int .u8 (a.toNat : Int), .int .u8 (b.toNat : Int), .int .u8 (c.toNat : Int)] w fun e w' => e = .returned (.agg #[.int .u8 (a.toNat : Int), .int .u8 (b.toNat : Int), .int .u8 (c.toNat : Int), .int .u8 255]) ∧ Below w.heap.size w w' := by
  go_enter Tryz.func87, Tryz.ntmps87
  go_wp2_with fail
  exact bodyPost_ret (v := .agg #[.int .u8 (a.toNat : Int), .int .u8 (b.toNat : Int), .int .u8 (c.toNat : Int), .int .u8 255]) (by simp [results, Tryz.results87, go_sem]) rfl ⟨rfl, (Below.refl _ _).alloc (Nat.le_refl _) _⟩
def rcolD (s : ByteArray) (q M z : Nat) (k : List UInt8 × Nat → Dec) : Nat → Nat → List UInt8 → Dec
  | 0, a, l => k (l, a)
  | m + 1, a, l => rsmpD s q M a z fun r => rcolD s q M z k m r.2 (l ++ [r.1])
set_option maxRecDepth 100000 in
set_option maxHeartbeats 8000000 in
theorem rpixGrayC {w : World} {p g x q a : Nat} {s : ByteArray} {h : HeadR} {av : List Nat} {y : Led} (I : RXI w w p g x q s h av a y) (ha : a ≤ s.size) (hsm : s.size ≤ 1099511627776) (hM : 1 ≤ h.M ∧ h.M ≤ 65535) (hy : y.reason = 0) :
    Calls Tryz.prog 63 #[.pointer (some ⟨x, 0, none⟩), .bool false] w fun e w' => RixPost w w' p g x q s h av y e (fun z k => rsmpD s (smpZ h.M) h.M a z fun r => k (grayQ r.1, r.2)) := by
  have I2 := ((I.alloc (.cells #[.int .u8 0, .int .u8 0, .int .u8 0, .int .u8 0] 48)).alloc (.cells #[.int .i64 0, .int .i64 0, .int .i64 0] 33)).alloc (.cells #[.int .u8 0, .int .u8 0, .int .u8 0] 151)
  have C2 : CB (((w.alloc (.cells #[.int .u8 0, .int .u8 0, .int .u8 0, .int .u8 0] 48)).alloc (.cells #[.int .i64 0, .int .i64 0, .int .i64 0] 33)).alloc (.cells #[.int .u8 0, .int .u8 0, .int .u8 0] 151)) w.heap.size 0 0 0 0 := Blk.alloc (Blk.alloc (Blk.new _ _ _) _) _
  have F2 : FB (((w.alloc (.cells #[.int .u8 0, .int .u8 0, .int .u8 0, .int .u8 0] 48)).alloc (.cells #[.int .i64 0, .int .i64 0, .int .i64 0] 33)).alloc (.cells #[.int .u8 0, .int .u8 0, .int .u8 0] 151)) (w.heap.size + 1) 0 0 0 := Blk.alloc (Blk.new_at _ _ _ (by simp)) _
  have D2 : AB (((w.alloc (.cells #[.int .u8 0, .int .u8 0, .int .u8 0, .int .u8 0] 48)).alloc (.cells #[.int .i64 0, .int .i64 0, .int .i64 0] 33)).alloc (.cells #[.int .u8 0, .int .u8 0, .int .u8 0] 151)) (w.heap.size + 2) 0 0 0 := Blk.new_at _ _ _ (by simp)
  have hpw := Blk.lt I.S
  have hgw := Blk.lt I.G
  have hqw : q < w.heap.size := by obtain ⟨cs, hb⟩ := I.Q.blk; exact Blk.lt hb
  have HX0 : Hid (RXI w (((w.alloc (.cells #[.int .u8 0, .int .u8 0, .int .u8 0, .int .u8 0] 48)).alloc (.cells #[.int .i64 0, .int .i64 0, .int .i64 0] 33)).alloc (.cells #[.int .u8 0, .int .u8 0, .int .u8 0] 151)) p g x q s h av a y ∧ AB (((w.alloc (.cells #[.int .u8 0, .int .u8 0, .int .u8 0, .int .u8 0] 48)).alloc (.cells #[.int .i64 0, .int .i64 0, .int .i64 0] 33)).alloc (.cells #[.int .u8 0, .int .u8 0, .int .u8 0] 151)) (w.heap.size + 2) 0 0 0 ∧ CB (((w.alloc (.cells #[.int .u8 0, .int .u8 0, .int .u8 0, .int .u8 0] 48)).alloc (.cells #[.int .i64 0, .int .i64 0, .int .i64 0] 33)).alloc (.cells #[.int .u8 0, .int .u8 0, .int .u8 0] 151)) w.heap.size 0 0 0 0 ∧ FB (((w.alloc (.cells #[.int .u8 0, .int .u8 0, .int .u8 0, .int .u8 0] 48)).alloc (.cells #[.int .i64 0, .int .i64 0, .int .i64 0] 33)).alloc (.cells #[.int .u8 0, .int .u8 0, .int .u8 0] 151)) (w.heap.size + 1) 0 0 0 ∧ a ≤ s.size ∧ y.reason = 0) := Lib.hid ⟨I2, D2, C2, F2, ha, hy⟩
  have HH := Lib.hid (And.intro hM hsm)
  clear I I2 C2 F2 D2 ha hy hM hsm
  go_enter Tryz.func63, Tryz.ntmps63
  go_upto_region 3 with fail
  go_loopg [7, 8, 9] 3 (fun k v7 v8 v9 wr => (k = 3 ∧ v9 = .int .i64 0 ∧ ∃ (a2 : Nat) (y2 : Led), Hid (RXI w wr p g x q s h av a2 y2 ∧ AB wr (w.heap.size + 2) 0 0 0 ∧ CB wr w.heap.size 0 0 0 0 ∧ FB wr (w.heap.size + 1) 0 0 0 ∧ a2 ≤ s.size ∧ y2.reason = 0 ∧ y2.bytes = y.bytes ∧ ∀ z (k : UInt8 × Nat → Dec), (rsmpD s (smpZ h.M) h.M a z k).run y = (rsmpD s (smpZ h.M) h.M a2 z k).run y2)) ∨ (k = 2 ∧ v9 = .int .i64 1 ∧ ∃ (a2 : Nat) (y2 : Led) (u0 : UInt8), Hid (RXI w wr p g x q s h av a2 y2 ∧ AB wr (w.heap.size + 2) (u0.toNat : Int) 0 0 ∧ CB wr w.heap.size 0 0 0 0 ∧ FB wr (w.heap.size + 1) 0 0 0 ∧ a2 ≤ s.size ∧ y2.reason = 0 ∧ y2.bytes = y.bytes ∧ ∀ z (k : UInt8 × Nat → Dec), (rsmpD s (smpZ h.M) h.M a z k).run y = (k (u0, a2)).run y2)) ∨ (k = 1 ∧ v9 = .int .i64 2 ∧ ∃ (a2 : Nat) (y2 : Led) (u0 : UInt8), Hid (RXI w wr p g x q s h av a2 y2 ∧ AB wr (w.heap.size + 2) (u0.toNat : Int) (u0.toNat : Int) 0 ∧ CB wr w.heap.size 0 0 0 0 ∧ FB wr (w.heap.size + 1) 0 0 0 ∧ a2 ≤ s.size ∧ y2.reason = 0 ∧ y2.bytes = y.bytes ∧ ∀ z (k : UInt8 × Nat → Dec), (rsmpD s (smpZ h.M) h.M a z k).run y = (k (u0, a2)).run y2)) ∨ (k = 0 ∧ v9 = .int .i64 3 ∧ ∃ (a2 : Nat) (y2 : Led) (u0 : UInt8), Hid (RXI w wr p g x q s h av a2 y2 ∧ AB wr (w.heap.size + 2) (u0.toNat : Int) (u0.toNat : Int) (u0.toNat : Int) ∧ CB wr w.heap.size 0 0 0 0 ∧ FB wr (w.heap.size + 1) 0 0 0 ∧ a2 ≤ s.size ∧ y2.reason = 0 ∧ y2.bytes = y.bytes ∧ ∀ z (k : UInt8 × Nat → Dec), (rsmpD s (smpZ h.M) h.M a z k).run y = (k (u0, a2)).run y2)))
  case atStart => exact .inl ⟨rfl, rfl, a, y, Lib.hid ⟨HX0.out.1, HX0.out.2.1, HX0.out.2.2.1, HX0.out.2.2.2.1, HX0.out.2.2.2.2.1, HX0.out.2.2.2.2.2, rfl, fun _ _ => rfl⟩⟩
  case round =>
    clear HX0
    obtain ⟨rfl, rfl, a2, y2, HX⟩ | ⟨rfl, rfl, a2, y2, u0, HX⟩ | ⟨rfl, rfl, a2, y2, u0, HX⟩ | ⟨rfl, rfl, a2, y2, u0, HX⟩ := hrel
    · skip
      have I4 := HX.out.1.alloc (.cells #[.int .i64 0, .int .i64 0, .int .i64 0] 33)
      have D4 : AB (wr.alloc (.cells #[.int .i64 0, .int .i64 0, .int .i64 0] 33)) (w.heap.size + 2) 0 0 0 := Blk.alloc HX.out.2.1 _
      have C4 : CB (wr.alloc (.cells #[.int .i64 0, .int .i64 0, .int .i64 0] 33)) w.heap.size 0 0 0 0 := Blk.alloc HX.out.2.2.1 _
      have F4 : FB (wr.alloc (.cells #[.int .i64 0, .int .i64 0, .int .i64 0] 33)) (w.heap.size + 1) 0 0 0 := Blk.alloc HX.out.2.2.2.1 _
      have E4 : FB (wr.alloc (.cells #[.int .i64 0, .int .i64 0, .int .i64 0] 33)) wr.heap.size 0 0 0 := Blk.new _ _ _
      have hlt : w.heap.size + 2 < wr.heap.size := Blk.lt HX.out.2.1
      go_upto_region 8 with fail
      generalize wr.alloc (.cells #[.int .i64 0, .int .i64 0, .int .i64 0] 33) = w3 at I4 D4 C4 F4 E4 ⊢
      generalize wr.heap.size = q7 at hlt E4 ⊢
      have HS0 := nextC I4.from_ HX.out.2.2.2.2.1 HH.out.2 HH.out.1 HX.out.2.2.2.2.2.1
      unfold RartPost smpNo smpYes ftV ft0 at HS0
      have HS := Lib.hid HS0
      have HB := Lib.hid (And.intro I4 (And.intro D4 (And.intro C4 (And.intro F4 E4))))
      clear HS0 I4 D4 C4 F4 E4
      have h2q : w.heap.size + 2 ≠ q7 := by omega
      have hq2 : q7 ≠ w.heap.size + 2 := by omega
      go_upto_region 9 with (go_at_call 89; refine HS.out.mono ?_; rintro e w5 ⟨y5, yb5, hor⟩; have T5 : Turn [p, g, q] w3 w5 := hor.elim (fun ⟨_, _, _, _, _, L, _⟩ => L.2.2) (fun ⟨_, _, _, I, _⟩ => I.T); have D5 : AB w5 (w.heap.size + 2) 0 0 0 := Blk.turn HB.out.2.1 T5 (by simp only [List.mem_cons, List.not_mem_nil, or_false, not_or]; omega); have E5 : FB w5 q7 0 0 0 := FB.turn HB.out.2.2.2.2 T5 (by simp only [List.mem_cons, List.not_mem_nil, or_false, not_or]; omega); obtain ⟨e0, e1, e2, ez0, ez1, ez2, el⟩ := FB.all E5; obtain ⟨d0, d1, d2, dz0, dz1, dz2, dl⟩ := AB.all D5; rcases hor with ⟨kk, aa, hk, yok, rfl, L3, run⟩ | ⟨⟨v, a'⟩, rfl, ha', I3, yr, run⟩)
      · have C5 : CB w5 w.heap.size 0 0 0 0 := Blk.turn HB.out.2.2.1 T5 (by simp only [List.mem_cons, List.not_mem_nil, or_false, not_or]; omega)
        have F5 : FB w5 (w.heap.size + 1) 0 0 0 := FB.turn HB.out.2.2.2.1 T5 (by simp only [List.mem_cons, List.not_mem_nil, or_false, not_or]; omega)
        have HR := Lib.hid (And.intro run (And.intro hk (And.intro yok yb5)))
        have HL := Lib.hid (And.intro L3.1 (And.intro L3.2.1 (HB.out.1.T.trans L3.2.2)))
        have HU := Lib.hid (And.intro D5 (And.intro E5 (And.intro C5 F5)))
        have hki : ((kk : Int) != 0) = true := bne_iff_ne.2 (by omega)
        clear d0 d1 d2 dz0 dz1 dz2 dl e0 e1 e2 ez0 ez1 ez2 el D5 E5 C5 F5 run hk yok yb5 L3 T5
        refine pwp_gen (w := (st3 (w5.setCell ⟨w.heap.size + 2, 0, none⟩ (.int .u8 0)) q7 (.int .i64 (kk : Int)) (.int .i64 3) (.int .i64 (aa : Int)))) (S := fun wx => Hid (AB wx (w.heap.size + 2) 0 0 0 ∧ CB wx w.heap.size 0 0 0 0 ∧ FB wx (w.heap.size + 1) 0 0 0 ∧ FB wx q7 (kk : Int) 3 (aa : Int) ∧ LedAt wx g y5 ∧ SclA wx q h.M av ∧ Turn [p, g, q] w wx)) (Lib.hid ⟨Blk.st3 (AB.set_ HU.out.1 (by simp)) h2q, Blk.st3 (Blk.far HU.out.2.2.1 (p := ⟨w.heap.size + 2, 0, none⟩) (show w.heap.size ≠ w.heap.size + 2 by omega) _) (by omega), Blk.st3 (Blk.far HU.out.2.2.2 (p := ⟨w.heap.size + 2, 0, none⟩) (show w.heap.size + 1 ≠ w.heap.size + 2 by omega) _) (by omega), FB.st3 (Blk.far HU.out.2.1 (p := ⟨w.heap.size + 2, 0, none⟩) hq2 _), Blk.st3 (Blk.far HL.out.1 (p := ⟨w.heap.size + 2, 0, none⟩) (show g ≠ w.heap.size + 2 by omega) _) (by omega), (HL.out.2.1.turn (S := [w.heap.size + 2]) (w' := w5.setCell ⟨w.heap.size + 2, 0, none⟩ (.int .u8 0)) ((Turn.refl _ _).set_ 0 _ (.inl (by simp))) (by simp; omega) (fun i hi => by simp only [List.mem_cons, List.not_mem_nil, or_false] at hi; subst hi; exact .inr ⟨_, _, HU.out.1, by decide⟩)).st3 (k := 0) (f := 0) (i := 0) (Blk.far HU.out.2.1 (p := ⟨w.heap.size + 2, 0, none⟩) hq2 _) (by omega), Turn.st3 (HL.out.2.2.set_ 0 _ (.inr (by omega))) (.inr (by omega))⟩) (fun wx hX => ?_)
        have C4 := hX.out.2.1
        have F4 := hX.out.2.2.1
        obtain ⟨e0, e1, e2, ez0, ez1, ez2, el⟩ := FB.all hX.out.2.2.2.1
        obtain ⟨f0, f1, f2, z0, z1, z2, fl⟩ := FB.all F4
        have r0 := CB.c0 C4
        have r1 := CB.c1 C4
        have r2 := CB.c2 C4
        have r3 := CB.c3 C4
        have rz0 := Blk.frozen C4 0
        have rz1 := Blk.frozen C4 1
        have rz2 := Blk.frozen C4 2
        have rz3 := Blk.frozen C4 3
        have rl := Blk.lt C4
        have hcf : w.heap.size ≠ w.heap.size + 1 := by omega
        have hcq : w.heap.size ≠ q7 := by omega
        have hfq : w.heap.size + 1 ≠ q7 := by omega
        have hcf' := hcf.symm
        have hcq' := hcq.symm
        have hfq' := hfq.symm
        go_upto_region 10 with fail
        go_region
        all_goals go_wp2_with fail
        have C5 : CB (st3 (st4 wx w.heap.size 0 0 0 0) (w.heap.size + 1) (.int .i64 (kk : Int)) (.int .i64 3) (.int .i64 (aa : Int))).drew w.heap.size 0 0 0 0 := Blk.drew (Blk.st3 (CB.store C4) hcf)
        have F5 : FB (st3 (st4 wx w.heap.size 0 0 0 0) (w.heap.size + 1) (.int .i64 (kk : Int)) (.int .i64 3) (.int .i64 (aa : Int))).drew (w.heap.size + 1) (kk : Int) 3 (aa : Int) := Blk.drew (FB.st3 (F4.st4 hcf'))
        obtain ⟨k0, k1, k2, _⟩ := FB.all F5
        have k3 := CB.c0 C5
        have k4 := CB.c1 C5
        have k5 := CB.c2 C5
        have k6 := CB.c3 C5
        change bodyPost _ _ _ _ _ (st3 (st4 wx w.heap.size 0 0 0 0) (w.heap.size + 1) (.int .i64 (kk : Int)) (.int .i64 3) (.int .i64 (aa : Int))).drew
        exact bodyPost_ret (v := .tuple #[.agg #[.int .u8 0, .int .u8 0, .int .u8 0, .int .u8 0], .agg #[.int .i64 (kk : Int), .int .i64 3, .int .i64 (aa : Int)]]) (by simp [results, Tryz.results63, go_sem, k0, k1, k2, k3, k4, k5, k6]) rfl ⟨y5, HR.out.2.2.2.trans HX.out.2.2.2.2.2.2.1, .inl ⟨kk, aa, 0, 0, 0, 0, HR.out.2.1, HR.out.2.2.1, rfl, ⟨Blk.drew (Blk.st3 (Blk.st4 hX.out.2.2.2.2.1 (by omega)) (by omega)), ((hX.out.2.2.2.2.2.1.st4 C4 (by omega)).st3 (F4.st4 hcf') (by omega)).drew, (Turn.st3 (Turn.st4 hX.out.2.2.2.2.2.2 (.inr (Nat.le_refl _))) (.inr (by omega))).drew⟩, fun z k => by rw [HX.out.2.2.2.2.2.2.2]; exact HR.out.1 z _⟩⟩
      · have C5 : CB w5 w.heap.size 0 0 0 0 := Blk.turn HB.out.2.2.1 T5 (by simp only [List.mem_cons, List.not_mem_nil, or_false, not_or]; omega)
        have F5 : FB w5 (w.heap.size + 1) 0 0 0 := FB.turn HB.out.2.2.2.1 T5 (by simp only [List.mem_cons, List.not_mem_nil, or_false, not_or]; omega)
        have HR := Lib.hid (And.intro run (And.intro ha' (And.intro yr yb5)))
        have I5 := I3.to_ HB.out.1.T
        have HU := Lib.hid (And.intro D5 (And.intro E5 (And.intro C5 (And.intro F5 I5))))
        clear d0 d1 d2 dz0 dz1 dz2 dl e0 e1 e2 ez0 ez1 ez2 el D5 E5 C5 F5 run ha' yr yb5 I3 I5 T5
        refine pwp_gen (w := (st3 (w5.setCell ⟨w.heap.size + 2, 0, none⟩ (.int .u8 (v.toNat : Int))) q7 (.int .i64 0) (.int .i64 0) (.int .i64 0))) (S := fun wx => Hid (AB wx (w.heap.size + 2) (v.toNat : Int) 0 0 ∧ CB wx w.heap.size 0 0 0 0 ∧ FB wx (w.heap.size + 1) 0 0 0 ∧ FB wx q7 0 0 0 ∧ RXI w wx p g x q s h av a' y5)) (Lib.hid ⟨Blk.st3 (AB.set_ HU.out.1 (by simp)) h2q, Blk.st3 (Blk.far HU.out.2.2.1 (p := ⟨w.heap.size + 2, 0, none⟩) (show w.heap.size ≠ w.heap.size + 2 by omega) _) (by omega), Blk.st3 (Blk.far HU.out.2.2.2.1 (p := ⟨w.heap.size + 2, 0, none⟩) (show w.heap.size + 1 ≠ w.heap.size + 2 by omega) _) (by omega), FB.st3 (Blk.far HU.out.2.1 (p := ⟨w.heap.size + 2, 0, none⟩) hq2 _), RXI.own (RXI.own HU.out.2.2.2.2 HU.out.1 (by omega) ((Turn.refl _ _).set_ 0 _ (.inl (by simp))) (by decide) (by decide) (by decide) (by decide) (by decide)) (Blk.far HU.out.2.1 (p := ⟨w.heap.size + 2, 0, none⟩) hq2 _) (by omega) (Turn.st3 (Turn.refl _ _) (.inl (by simp))) (by decide) (by decide) (by decide) (by decide) (by decide)⟩) (fun wx hX => ?_)
        obtain ⟨e0, e1, e2, ez0, ez1, ez2, el⟩ := FB.all hX.out.2.2.2.1
        go_wp2_with fail
        go_roundg 2
        case measure => decide
        case rel => exact .inr (.inl ⟨rfl, rfl, a', y5, v, Lib.hid ⟨hX.out.2.2.2.2, hX.out.1, hX.out.2.1, hX.out.2.2.1, HR.out.2.1, HR.out.2.2.1, HR.out.2.2.2.trans HX.out.2.2.2.2.2.2.1, fun z k => by rw [HX.out.2.2.2.2.2.2.2]; exact HR.out.1 z _⟩⟩)
    · skip
      obtain ⟨d0, d1, d2, dz0, dz1, dz2, dl⟩ := AB.all HX.out.2.1
      go_wp2_with fail
      go_roundg 1
      case measure => decide
      case rel => exact .inr (.inr (.inl ⟨rfl, rfl, a2, y2, u0, Lib.hid ⟨RXI.own HX.out.1 HX.out.2.1 (by omega) ((Turn.refl _ _).set_ 1 _ (.inl (by simp))) (by decide) (by decide) (by decide) (by decide) (by decide), AB.set_ HX.out.2.1 (by simp), Blk.far HX.out.2.2.1 (p := ⟨w.heap.size + 2, 1, none⟩) (show w.heap.size ≠ w.heap.size + 2 by omega) _, Blk.far HX.out.2.2.2.1 (p := ⟨w.heap.size + 2, 1, none⟩) (show w.heap.size + 1 ≠ w.heap.size + 2 by omega) _, HX.out.2.2.2.2⟩⟩))
    · skip
      obtain ⟨d0, d1, d2, dz0, dz1, dz2, dl⟩ := AB.all HX.out.2.1
      go_wp2_with fail
      go_roundg 0
      case measure => decide
      case rel => exact .inr (.inr (.inr ⟨rfl, rfl, a2, y2, u0, Lib.hid ⟨RXI.own HX.out.1 HX.out.2.1 (by omega) ((Turn.refl _ _).set_ 2 _ (.inl (by simp))) (by decide) (by decide) (by decide) (by decide) (by decide), AB.set_ HX.out.2.1 (by simp), Blk.far HX.out.2.2.1 (p := ⟨w.heap.size + 2, 2, none⟩) (show w.heap.size ≠ w.heap.size + 2 by omega) _, Blk.far HX.out.2.2.2.1 (p := ⟨w.heap.size + 2, 2, none⟩) (show w.heap.size + 1 ≠ w.heap.size + 2 by omega) _, HX.out.2.2.2.2⟩⟩))
    · skip
      obtain ⟨d0, d1, d2, dz0, dz1, dz2, dl⟩ := AB.all HX.out.2.1
      have HOP := Lib.hid (opaqueC u0 u0 u0)
      go_wp2_with (go_at_call 87; refine (HOP.out _).mono ?_; rintro e w9 ⟨rfl, b9⟩; have I9 := HX.out.1.below b9; have C4 : CB w9 w.heap.size 0 0 0 0 := Blk.below HX.out.2.2.1 b9 (Blk.lt HX.out.2.2.1); have F4 : FB w9 (w.heap.size + 1) 0 0 0 := Blk.below HX.out.2.2.2.1 b9 (Blk.lt HX.out.2.2.2.1); obtain ⟨f0, f1, f2, z0, z1, z2, fl⟩ := FB.all F4; have r0 := CB.c0 C4; have r1 := CB.c1 C4; have r2 := CB.c2 C4; have r3 := CB.c3 C4; have rz0 := Blk.frozen C4 0; have rz1 := Blk.frozen C4 1; have rz2 := Blk.frozen C4 2; have rz3 := Blk.frozen C4 3; have rl := Blk.lt C4)
      have hcf : w.heap.size ≠ w.heap.size + 1 := by omega
      have hcf' := hcf.symm
      have C5 : CB (st3 (st4 w9 w.heap.size (u0.toNat : Int) (u0.toNat : Int) (u0.toNat : Int) 255) (w.heap.size + 1) (.int .i64 0) (.int .i64 0) (.int .i64 0)) w.heap.size (u0.toNat : Int) (u0.toNat : Int) (u0.toNat : Int) 255 := Blk.st3 (CB.store C4) hcf
      have F5 : FB (st3 (st4 w9 w.heap.size (u0.toNat : Int) (u0.toNat : Int) (u0.toNat : Int) 255) (w.heap.size + 1) (.int .i64 0) (.int .i64 0) (.int .i64 0)) (w.heap.size + 1) 0 0 0 := FB.st3 (F4.st4 hcf')
      obtain ⟨k0, k1, k2, _⟩ := FB.all F5
      have k3 := CB.c0 C5
      have k4 := CB.c1 C5
      have k5 := CB.c2 C5
      have k6 := CB.c3 C5
      change bodyPost _ _ _ _ _ (st3 (st4 w9 w.heap.size (u0.toNat : Int) (u0.toNat : Int) (u0.toNat : Int) 255) (w.heap.size + 1) (.int .i64 0) (.int .i64 0) (.int .i64 0))
      exact bodyPost_ret (v := .tuple #[(grayQ u0).v, .agg #[.int .i64 0, .int .i64 0, .int .i64 0]]) (by simp [results, Tryz.results63, go_sem, col3, grayQ, Qc.v, k0, k1, k2, k3, k4, k5, k6]) rfl ⟨y2, HX.out.2.2.2.2.2.2.1, .inr ⟨(grayQ u0), a2, rfl, HX.out.2.2.2.2.1, RXI.own (RXI.own I9 C4 (Nat.le_refl _) (Turn.st4 (Turn.refl _ _) (.inl (by simp))) (by decide) (by decide) (by decide) (by decide) (by decide)) (F4.st4 hcf') (by omega) (Turn.st3 (Turn.refl _ _) (.inl (by simp))) (by decide) (by decide) (by decide) (by decide) (by decide), HX.out.2.2.2.2.2.1, fun z k => by exact HX.out.2.2.2.2.2.2.2 z _⟩⟩
set_option maxRecDepth 100000 in
set_option maxHeartbeats 8000000 in
theorem rpixColC {w : World} {p g x q a : Nat} {s : ByteArray} {h : HeadR} {av : List Nat} {y : Led} (I : RXI w w p g x q s h av a y) (ha : a ≤ s.size) (hsm : s.size ≤ 1099511627776) (hM : 1 ≤ h.M ∧ h.M ≤ 65535) (hy : y.reason = 0) :
    Calls Tryz.prog 63 #[.pointer (some ⟨x, 0, none⟩), .bool true] w fun e w' => RixPost w w' p g x q s h av y e (fun z k => rcolD s (smpZ h.M) h.M z (fun t => k (col3 t.1, t.2)) 3 a []) := by
  have I2 := ((I.alloc (.cells #[.int .u8 0, .int .u8 0, .int .u8 0, .int .u8 0] 48)).alloc (.cells #[.int .i64 0, .int .i64 0, .int .i64 0] 33)).alloc (.cells #[.int .u8 0, .int .u8 0, .int .u8 0] 151)
  have C2 : CB (((w.alloc (.cells #[.int .u8 0, .int .u8 0, .int .u8 0, .int .u8 0] 48)).alloc (.cells #[.int .i64 0, .int .i64 0, .int .i64 0] 33)).alloc (.cells #[.int .u8 0, .int .u8 0, .int .u8 0] 151)) w.heap.size 0 0 0 0 := Blk.alloc (Blk.alloc (Blk.new _ _ _) _) _
  have F2 : FB (((w.alloc (.cells #[.int .u8 0, .int .u8 0, .int .u8 0, .int .u8 0] 48)).alloc (.cells #[.int .i64 0, .int .i64 0, .int .i64 0] 33)).alloc (.cells #[.int .u8 0, .int .u8 0, .int .u8 0] 151)) (w.heap.size + 1) 0 0 0 := Blk.alloc (Blk.new_at _ _ _ (by simp)) _
  have D2 : AB (((w.alloc (.cells #[.int .u8 0, .int .u8 0, .int .u8 0, .int .u8 0] 48)).alloc (.cells #[.int .i64 0, .int .i64 0, .int .i64 0] 33)).alloc (.cells #[.int .u8 0, .int .u8 0, .int .u8 0] 151)) (w.heap.size + 2) 0 0 0 := Blk.new_at _ _ _ (by simp)
  have hpw := Blk.lt I.S
  have hgw := Blk.lt I.G
  have hqw : q < w.heap.size := by obtain ⟨cs, hb⟩ := I.Q.blk; exact Blk.lt hb
  have HX0 : Hid (RXI w (((w.alloc (.cells #[.int .u8 0, .int .u8 0, .int .u8 0, .int .u8 0] 48)).alloc (.cells #[.int .i64 0, .int .i64 0, .int .i64 0] 33)).alloc (.cells #[.int .u8 0, .int .u8 0, .int .u8 0] 151)) p g x q s h av a y ∧ AB (((w.alloc (.cells #[.int .u8 0, .int .u8 0, .int .u8 0, .int .u8 0] 48)).alloc (.cells #[.int .i64 0, .int .i64 0, .int .i64 0] 33)).alloc (.cells #[.int .u8 0, .int .u8 0, .int .u8 0] 151)) (w.heap.size + 2) 0 0 0 ∧ CB (((w.alloc (.cells #[.int .u8 0, .int .u8 0, .int .u8 0, .int .u8 0] 48)).alloc (.cells #[.int .i64 0, .int .i64 0, .int .i64 0] 33)).alloc (.cells #[.int .u8 0, .int .u8 0, .int .u8 0] 151)) w.heap.size 0 0 0 0 ∧ FB (((w.alloc (.cells #[.int .u8 0, .int .u8 0, .int .u8 0, .int .u8 0] 48)).alloc (.cells #[.int .i64 0, .int .i64 0, .int .i64 0] 33)).alloc (.cells #[.int .u8 0, .int .u8 0, .int .u8 0] 151)) (w.heap.size + 1) 0 0 0 ∧ a ≤ s.size ∧ y.reason = 0) := Lib.hid ⟨I2, D2, C2, F2, ha, hy⟩
  have HH := Lib.hid (And.intro hM hsm)
  clear I I2 C2 F2 D2 ha hy hM hsm
  go_enter Tryz.func63, Tryz.ntmps63
  go_upto_region 3 with fail
  go_loopg [7, 8, 9] 3 (fun k v7 v8 v9 wr => (k = 3 ∧ v9 = .int .i64 0 ∧ ∃ (a2 : Nat) (y2 : Led), Hid (RXI w wr p g x q s h av a2 y2 ∧ AB wr (w.heap.size + 2) 0 0 0 ∧ CB wr w.heap.size 0 0 0 0 ∧ FB wr (w.heap.size + 1) 0 0 0 ∧ a2 ≤ s.size ∧ y2.reason = 0 ∧ y2.bytes = y.bytes ∧ ∀ z k, (rcolD s (smpZ h.M) h.M z k 3 a []).run y = (rcolD s (smpZ h.M) h.M z k 3 a2 []).run y2)) ∨ (k = 2 ∧ v9 = .int .i64 1 ∧ ∃ (a2 : Nat) (y2 : Led) (u0 : UInt8), Hid (RXI w wr p g x q s h av a2 y2 ∧ AB wr (w.heap.size + 2) (u0.toNat : Int) 0 0 ∧ CB wr w.heap.size 0 0 0 0 ∧ FB wr (w.heap.size + 1) 0 0 0 ∧ a2 ≤ s.size ∧ y2.reason = 0 ∧ y2.bytes = y.bytes ∧ ∀ z k, (rcolD s (smpZ h.M) h.M z k 3 a []).run y = (rcolD s (smpZ h.M) h.M z k 2 a2 [u0]).run y2)) ∨ (k = 1 ∧ v9 = .int .i64 2 ∧ ∃ (a2 : Nat) (y2 : Led) (u0 : UInt8) (u1 : UInt8), Hid (RXI w wr p g x q s h av a2 y2 ∧ AB wr (w.heap.size + 2) (u0.toNat : Int) (u1.toNat : Int) 0 ∧ CB wr w.heap.size 0 0 0 0 ∧ FB wr (w.heap.size + 1) 0 0 0 ∧ a2 ≤ s.size ∧ y2.reason = 0 ∧ y2.bytes = y.bytes ∧ ∀ z k, (rcolD s (smpZ h.M) h.M z k 3 a []).run y = (rcolD s (smpZ h.M) h.M z k 1 a2 [u0, u1]).run y2)) ∨ (k = 0 ∧ v9 = .int .i64 3 ∧ ∃ (a2 : Nat) (y2 : Led) (u0 : UInt8) (u1 : UInt8) (u2 : UInt8), Hid (RXI w wr p g x q s h av a2 y2 ∧ AB wr (w.heap.size + 2) (u0.toNat : Int) (u1.toNat : Int) (u2.toNat : Int) ∧ CB wr w.heap.size 0 0 0 0 ∧ FB wr (w.heap.size + 1) 0 0 0 ∧ a2 ≤ s.size ∧ y2.reason = 0 ∧ y2.bytes = y.bytes ∧ ∀ z k, (rcolD s (smpZ h.M) h.M z k 3 a []).run y = (rcolD s (smpZ h.M) h.M z k 0 a2 [u0, u1, u2]).run y2)))
  case atStart => exact .inl ⟨rfl, rfl, a, y, Lib.hid ⟨HX0.out.1, HX0.out.2.1, HX0.out.2.2.1, HX0.out.2.2.2.1, HX0.out.2.2.2.2.1, HX0.out.2.2.2.2.2, rfl, fun _ _ => rfl⟩⟩
  case round =>
    clear HX0
    obtain ⟨rfl, rfl, a2, y2, HX⟩ | ⟨rfl, rfl, a2, y2, u0, HX⟩ | ⟨rfl, rfl, a2, y2, u0, u1, HX⟩ | ⟨rfl, rfl, a2, y2, u0, u1, u2, HX⟩ := hrel
    · skip
      have I4 := HX.out.1.alloc (.cells #[.int .i64 0, .int .i64 0, .int .i64 0] 33)
      have D4 : AB (wr.alloc (.cells #[.int .i64 0, .int .i64 0, .int .i64 0] 33)) (w.heap.size + 2) 0 0 0 := Blk.alloc HX.out.2.1 _
      have C4 : CB (wr.alloc (.cells #[.int .i64 0, .int .i64 0, .int .i64 0] 33)) w.heap.size 0 0 0 0 := Blk.alloc HX.out.2.2.1 _
      have F4 : FB (wr.alloc (.cells #[.int .i64 0, .int .i64 0, .int .i64 0] 33)) (w.heap.size + 1) 0 0 0 := Blk.alloc HX.out.2.2.2.1 _
      have E4 : FB (wr.alloc (.cells #[.int .i64 0, .int .i64 0, .int .i64 0] 33)) wr.heap.size 0 0 0 := Blk.new _ _ _
      have hlt : w.heap.size + 2 < wr.heap.size := Blk.lt HX.out.2.1
      go_upto_region 8 with fail
      generalize wr.alloc (.cells #[.int .i64 0, .int .i64 0, .int .i64 0] 33) = w3 at I4 D4 C4 F4 E4 ⊢
      generalize wr.heap.size = q7 at hlt E4 ⊢
      have HS0 := nextC I4.from_ HX.out.2.2.2.2.1 HH.out.2 HH.out.1 HX.out.2.2.2.2.2.1
      unfold RartPost smpNo smpYes ftV ft0 at HS0
      have HS := Lib.hid HS0
      have HB := Lib.hid (And.intro I4 (And.intro D4 (And.intro C4 (And.intro F4 E4))))
      clear HS0 I4 D4 C4 F4 E4
      have h2q : w.heap.size + 2 ≠ q7 := by omega
      have hq2 : q7 ≠ w.heap.size + 2 := by omega
      go_upto_region 9 with (go_at_call 89; refine HS.out.mono ?_; rintro e w5 ⟨y5, yb5, hor⟩; have T5 : Turn [p, g, q] w3 w5 := hor.elim (fun ⟨_, _, _, _, _, L, _⟩ => L.2.2) (fun ⟨_, _, _, I, _⟩ => I.T); have D5 : AB w5 (w.heap.size + 2) 0 0 0 := Blk.turn HB.out.2.1 T5 (by simp only [List.mem_cons, List.not_mem_nil, or_false, not_or]; omega); have E5 : FB w5 q7 0 0 0 := FB.turn HB.out.2.2.2.2 T5 (by simp only [List.mem_cons, List.not_mem_nil, or_false, not_or]; omega); obtain ⟨e0, e1, e2, ez0, ez1, ez2, el⟩ := FB.all E5; obtain ⟨d0, d1, d2, dz0, dz1, dz2, dl⟩ := AB.all D5; rcases hor with ⟨kk, aa, hk, yok, rfl, L3, run⟩ | ⟨⟨v, a'⟩, rfl, ha', I3, yr, run⟩)
      · have C5 : CB w5 w.heap.size 0 0 0 0 := Blk.turn HB.out.2.2.1 T5 (by simp only [List.mem_cons, List.not_mem_nil, or_false, not_or]; omega)
        have F5 : FB w5 (w.heap.size + 1) 0 0 0 := FB.turn HB.out.2.2.2.1 T5 (by simp only [List.mem_cons, List.not_mem_nil, or_false, not_or]; omega)
        have HR := Lib.hid (And.intro run (And.intro hk (And.intro yok yb5)))
        have HL := Lib.hid (And.intro L3.1 (And.intro L3.2.1 (HB.out.1.T.trans L3.2.2)))
        have HU := Lib.hid (And.intro D5 (And.intro E5 (And.intro C5 F5)))
        have hki : ((kk : Int) != 0) = true := bne_iff_ne.2 (by omega)
        clear d0 d1 d2 dz0 dz1 dz2 dl e0 e1 e2 ez0 ez1 ez2 el D5 E5 C5 F5 run hk yok yb5 L3 T5
        refine pwp_gen (w := (st3 (w5.setCell ⟨w.heap.size + 2, 0, none⟩ (.int .u8 0)) q7 (.int .i64 (kk : Int)) (.int .i64 3) (.int .i64 (aa : Int)))) (S := fun wx => Hid (AB wx (w.heap.size + 2) 0 0 0 ∧ CB wx w.heap.size 0 0 0 0 ∧ FB wx (w.heap.size + 1) 0 0 0 ∧ FB wx q7 (kk : Int) 3 (aa : Int) ∧ LedAt wx g y5 ∧ SclA wx q h.M av ∧ Turn [p, g, q] w wx)) (Lib.hid ⟨Blk.st3 (AB.set_ HU.out.1 (by simp)) h2q, Blk.st3 (Blk.far HU.out.2.2.1 (p := ⟨w.heap.size + 2, 0, none⟩) (show w.heap.size ≠ w.heap.size + 2 by omega) _) (by omega), Blk.st3 (Blk.far HU.out.2.2.2 (p := ⟨w.heap.size + 2, 0, none⟩) (show w.heap.size + 1 ≠ w.heap.size + 2 by omega) _) (by omega), FB.st3 (Blk.far HU.out.2.1 (p := ⟨w.heap.size + 2, 0, none⟩) hq2 _), Blk.st3 (Blk.far HL.out.1 (p := ⟨w.heap.size + 2, 0, none⟩) (show g ≠ w.heap.size + 2 by omega) _) (by omega), (HL.out.2.1.turn (S := [w.heap.size + 2]) (w' := w5.setCell ⟨w.heap.size + 2, 0, none⟩ (.int .u8 0)) ((Turn.refl _ _).set_ 0 _ (.inl (by simp))) (by simp; omega) (fun i hi => by simp only [List.mem_cons, List.not_mem_nil, or_false] at hi; subst hi; exact .inr ⟨_, _, HU.out.1, by decide⟩)).st3 (k := 0) (f := 0) (i := 0) (Blk.far HU.out.2.1 (p := ⟨w.heap.size + 2, 0, none⟩) hq2 _) (by omega), Turn.st3 (HL.out.2.2.set_ 0 _ (.inr (by omega))) (.inr (by omega))⟩) (fun wx hX => ?_)
        have C4 := hX.out.2.1
        have F4 := hX.out.2.2.1
        obtain ⟨e0, e1, e2, ez0, ez1, ez2, el⟩ := FB.all hX.out.2.2.2.1
        obtain ⟨f0, f1, f2, z0, z1, z2, fl⟩ := FB.all F4
        have r0 := CB.c0 C4
        have r1 := CB.c1 C4
        have r2 := CB.c2 C4
        have r3 := CB.c3 C4
        have rz0 := Blk.frozen C4 0
        have rz1 := Blk.frozen C4 1
        have rz2 := Blk.frozen C4 2
        have rz3 := Blk.frozen C4 3
        have rl := Blk.lt C4
        have hcf : w.heap.size ≠ w.heap.size + 1 := by omega
        have hcq : w.heap.size ≠ q7 := by omega
        have hfq : w.heap.size + 1 ≠ q7 := by omega
        have hcf' := hcf.symm
        have hcq' := hcq.symm
        have hfq' := hfq.symm
        go_upto_region 10 with fail
        go_region
        all_goals go_wp2_with fail
        have C5 : CB (st3 (st4 wx w.heap.size 0 0 0 0) (w.heap.size + 1) (.int .i64 (kk : Int)) (.int .i64 3) (.int .i64 (aa : Int))).drew w.heap.size 0 0 0 0 := Blk.drew (Blk.st3 (CB.store C4) hcf)
        have F5 : FB (st3 (st4 wx w.heap.size 0 0 0 0) (w.heap.size + 1) (.int .i64 (kk : Int)) (.int .i64 3) (.int .i64 (aa : Int))).drew (w.heap.size + 1) (kk : Int) 3 (aa : Int) := Blk.drew (FB.st3 (F4.st4 hcf'))
        obtain ⟨k0, k1, k2, _⟩ := FB.all F5
        have k3 := CB.c0 C5
        have k4 := CB.c1 C5
        have k5 := CB.c2 C5
        have k6 := CB.c3 C5
        change bodyPost _ _ _ _ _ (st3 (st4 wx w.heap.size 0 0 0 0) (w.heap.size + 1) (.int .i64 (kk : Int)) (.int .i64 3) (.int .i64 (aa : Int))).drew
        exact bodyPost_ret (v := .tuple #[.agg #[.int .u8 0, .int .u8 0, .int .u8 0, .int .u8 0], .agg #[.int .i64 (kk : Int), .int .i64 3, .int .i64 (aa : Int)]]) (by simp [results, Tryz.results63, go_sem, k0, k1, k2, k3, k4, k5, k6]) rfl ⟨y5, HR.out.2.2.2.trans HX.out.2.2.2.2.2.2.1, .inl ⟨kk, aa, 0, 0, 0, 0, HR.out.2.1, HR.out.2.2.1, rfl, ⟨Blk.drew (Blk.st3 (Blk.st4 hX.out.2.2.2.2.1 (by omega)) (by omega)), ((hX.out.2.2.2.2.2.1.st4 C4 (by omega)).st3 (F4.st4 hcf') (by omega)).drew, (Turn.st3 (Turn.st4 hX.out.2.2.2.2.2.2 (.inr (Nat.le_refl _))) (.inr (by omega))).drew⟩, fun z k => by rw [HX.out.2.2.2.2.2.2.2]; exact HR.out.1 z _⟩⟩
      · have C5 : CB w5 w.heap.size 0 0 0 0 := Blk.turn HB.out.2.2.1 T5 (by simp only [List.mem_cons, List.not_mem_nil, or_false, not_or]; omega)
        have F5 : FB w5 (w.heap.size + 1) 0 0 0 := FB.turn HB.out.2.2.2.1 T5 (by simp only [List.mem_cons, List.not_mem_nil, or_false, not_or]; omega)
        have HR := Lib.hid (And.intro run (And.intro ha' (And.intro yr yb5)))
        have I5 := I3.to_ HB.out.1.T
        have HU := Lib.hid (And.intro D5 (And.intro E5 (And.intro C5 (And.intro F5 I5))))
        clear d0 d1 d2 dz0 dz1 dz2 dl e0 e1 e2 ez0 ez1 ez2 el D5 E5 C5 F5 run ha' yr yb5 I3 I5 T5
        refine pwp_gen (w := (st3 (w5.setCell ⟨w.heap.size + 2, 0, none⟩ (.int .u8 (v.toNat : Int))) q7 (.int .i64 0) (.int .i64 0) (.int .i64 0))) (S := fun wx => Hid (AB wx (w.heap.size + 2) (v.toNat : Int) 0 0 ∧ CB wx w.heap.size 0 0 0 0 ∧ FB wx (w.heap.size + 1) 0 0 0 ∧ FB wx q7 0 0 0 ∧ RXI w wx p g x q s h av a' y5)) (Lib.hid ⟨Blk.st3 (AB.set_ HU.out.1 (by simp)) h2q, Blk.st3 (Blk.far HU.out.2.2.1 (p := ⟨w.heap.size + 2, 0, none⟩) (show w.heap.size ≠ w.heap.size + 2 by omega) _) (by omega), Blk.st3 (Blk.far HU.out.2.2.2.1 (p := ⟨w.heap.size + 2, 0, none⟩) (show w.heap.size + 1 ≠ w.heap.size + 2 by omega) _) (by omega), FB.st3 (Blk.far HU.out.2.1 (p := ⟨w.heap.size + 2, 0, none⟩) hq2 _), RXI.own (RXI.own HU.out.2.2.2.2 HU.out.1 (by omega) ((Turn.refl _ _).set_ 0 _ (.inl (by simp))) (by decide) (by decide) (by decide) (by decide) (by decide)) (Blk.far HU.out.2.1 (p := ⟨w.heap.size + 2, 0, none⟩) hq2 _) (by omega) (Turn.st3 (Turn.refl _ _) (.inl (by simp))) (by decide) (by decide) (by decide) (by decide) (by decide)⟩) (fun wx hX => ?_)
        obtain ⟨e0, e1, e2, ez0, ez1, ez2, el⟩ := FB.all hX.out.2.2.2.1
        go_wp2_with fail
        go_roundg 2
        case measure => decide
        case rel => exact .inr (.inl ⟨rfl, rfl, a', y5, v, Lib.hid ⟨hX.out.2.2.2.2, hX.out.1, hX.out.2.1, hX.out.2.2.1, HR.out.2.1, HR.out.2.2.1, HR.out.2.2.2.trans HX.out.2.2.2.2.2.2.1, fun z k => by rw [HX.out.2.2.2.2.2.2.2]; exact HR.out.1 z _⟩⟩)
    · skip
      have I4 := HX.out.1.alloc (.cells #[.int .i64 0, .int .i64 0, .int .i64 0] 33)
      have D4 : AB (wr.alloc (.cells #[.int .i64 0, .int .i64 0, .int .i64 0] 33)) (w.heap.size + 2) (u0.toNat : Int) 0 0 := Blk.alloc HX.out.2.1 _
      have C4 : CB (wr.alloc (.cells #[.int .i64 0, .int .i64 0, .int .i64 0] 33)) w.heap.size 0 0 0 0 := Blk.alloc HX.out.2.2.1 _
      have F4 : FB (wr.alloc (.cells #[.int .i64 0, .int .i64 0, .int .i64 0] 33)) (w.heap.size + 1) 0 0 0 := Blk.alloc HX.out.2.2.2.1 _
      have E4 : FB (wr.alloc (.cells #[.int .i64 0, .int .i64 0, .int .i64 0] 33)) wr.heap.size 0 0 0 := Blk.new _ _ _
      have hlt : w.heap.size + 2 < wr.heap.size := Blk.lt HX.out.2.1
      go_upto_region 8 with fail
      generalize wr.alloc (.cells #[.int .i64 0, .int .i64 0, .int .i64 0] 33) = w3 at I4 D4 C4 F4 E4 ⊢
      generalize wr.heap.size = q7 at hlt E4 ⊢
      have HS0 := nextC I4.from_ HX.out.2.2.2.2.1 HH.out.2 HH.out.1 HX.out.2.2.2.2.2.1
      unfold RartPost smpNo smpYes ftV ft0 at HS0
      have HS := Lib.hid HS0
      have HB := Lib.hid (And.intro I4 (And.intro D4 (And.intro C4 (And.intro F4 E4))))
      clear HS0 I4 D4 C4 F4 E4
      have h2q : w.heap.size + 2 ≠ q7 := by omega
      have hq2 : q7 ≠ w.heap.size + 2 := by omega
      go_upto_region 9 with (go_at_call 89; refine HS.out.mono ?_; rintro e w5 ⟨y5, yb5, hor⟩; have T5 : Turn [p, g, q] w3 w5 := hor.elim (fun ⟨_, _, _, _, _, L, _⟩ => L.2.2) (fun ⟨_, _, _, I, _⟩ => I.T); have D5 : AB w5 (w.heap.size + 2) (u0.toNat : Int) 0 0 := Blk.turn HB.out.2.1 T5 (by simp only [List.mem_cons, List.not_mem_nil, or_false, not_or]; omega); have E5 : FB w5 q7 0 0 0 := FB.turn HB.out.2.2.2.2 T5 (by simp only [List.mem_cons, List.not_mem_nil, or_false, not_or]; omega); obtain ⟨e0, e1, e2, ez0, ez1, ez2, el⟩ := FB.all E5; obtain ⟨d0, d1, d2, dz0, dz1, dz2, dl⟩ := AB.all D5; rcases hor with ⟨kk, aa, hk, yok, rfl, L3, run⟩ | ⟨⟨v, a'⟩, rfl, ha', I3, yr, run⟩)
      · have C5 : CB w5 w.heap.size 0 0 0 0 := Blk.turn HB.out.2.2.1 T5 (by simp only [List.mem_cons, List.not_mem_nil, or_false, not_or]; omega)
        have F5 : FB w5 (w.heap.size + 1) 0 0 0 := FB.turn HB.out.2.2.2.1 T5 (by simp only [List.mem_cons, List.not_mem_nil, or_false, not_or]; omega)
        have HR := Lib.hid (And.intro run (And.intro hk (And.intro yok yb5)))
        have HL := Lib.hid (And.intro L3.1 (And.intro L3.2.1 (HB.out.1.T.trans L3.2.2)))
        have HU := Lib.hid (And.intro D5 (And.intro E5 (And.intro C5 F5)))
        have hki : ((kk : Int) != 0) = true := bne_iff_ne.2 (by omega)
        clear d0 d1 d2 dz0 dz1 dz2 dl e0 e1 e2 ez0 ez1 ez2 el D5 E5 C5 F5 run hk yok yb5 L3 T5
        refine pwp_gen (w := (st3 (w5.setCell ⟨w.heap.size + 2, 1, none⟩ (.int .u8 0)) q7 (.int .i64 (kk : Int)) (.int .i64 3) (.int .i64 (aa : Int)))) (S := fun wx => Hid (AB wx (w.heap.size + 2) (u0.toNat : Int) 0 0 ∧ CB wx w.heap.size 0 0 0 0 ∧ FB wx (w.heap.size + 1) 0 0 0 ∧ FB wx q7 (kk : Int) 3 (aa : Int) ∧ LedAt wx g y5 ∧ SclA wx q h.M av ∧ Turn [p, g, q] w wx)) (Lib.hid ⟨Blk.st3 (AB.set_ HU.out.1 (by simp)) h2q, Blk.st3 (Blk.far HU.out.2.2.1 (p := ⟨w.heap.size + 2, 1, none⟩) (show w.heap.size ≠ w.heap.size + 2 by omega) _) (by omega), Blk.st3 (Blk.far HU.out.2.2.2 (p := ⟨w.heap.size + 2, 1, none⟩) (show w.heap.size + 1 ≠ w.heap.size + 2 by omega) _) (by omega), FB.st3 (Blk.far HU.out.2.1 (p := ⟨w.heap.size + 2, 1, none⟩) hq2 _), Blk.st3 (Blk.far HL.out.1 (p := ⟨w.heap.size + 2, 1, none⟩) (show g ≠ w.heap.size + 2 by omega) _) (by omega), (HL.out.2.1.turn (S := [w.heap.size + 2]) (w' := w5.setCell ⟨w.heap.size + 2, 1, none⟩ (.int .u8 0)) ((Turn.refl _ _).set_ 1 _ (.inl (by simp))) (by simp; omega) (fun i hi => by simp only [List.mem_cons, List.not_mem_nil, or_false] at hi; subst hi; exact .inr ⟨_, _, HU.out.1, by decide⟩)).st3 (k := 0) (f := 0) (i := 0) (Blk.far HU.out.2.1 (p := ⟨w.heap.size + 2, 1, none⟩) hq2 _) (by omega), Turn.st3 (HL.out.2.2.set_ 1 _ (.inr (by omega))) (.inr (by omega))⟩) (fun wx hX => ?_)
        have C4 := hX.out.2.1
        have F4 := hX.out.2.2.1
        obtain ⟨e0, e1, e2, ez0, ez1, ez2, el⟩ := FB.all hX.out.2.2.2.1
        obtain ⟨f0, f1, f2, z0, z1, z2, fl⟩ := FB.all F4
        have r0 := CB.c0 C4
        have r1 := CB.c1 C4
        have r2 := CB.c2 C4
        have r3 := CB.c3 C4
        have rz0 := Blk.frozen C4 0
        have rz1 := Blk.frozen C4 1
        have rz2 := Blk.frozen C4 2
        have rz3 := Blk.frozen C4 3
        have rl := Blk.lt C4
        have hcf : w.heap.size ≠ w.heap.size + 1 := by omega
        have hcq : w.heap.size ≠ q7 := by omega
        have hfq : w.heap.size + 1 ≠ q7 := by omega
        have hcf' := hcf.symm
        have hcq' := hcq.symm
        have hfq' := hfq.symm
        go_upto_region 10 with fail
        go_region
        all_goals go_wp2_with fail
        have C5 : CB (st3 (st4 wx w.heap.size 0 0 0 0) (w.heap.size + 1) (.int .i64 (kk : Int)) (.int .i64 3) (.int .i64 (aa : Int))).drew w.heap.size 0 0 0 0 := Blk.drew (Blk.st3 (CB.store C4) hcf)
        have F5 : FB (st3 (st4 wx w.heap.size 0 0 0 0) (w.heap.size + 1) (.int .i64 (kk : Int)) (.int .i64 3) (.int .i64 (aa : Int))).drew (w.heap.size + 1) (kk : Int) 3 (aa : Int) := Blk.drew (FB.st3 (F4.st4 hcf'))
        obtain ⟨k0, k1, k2, _⟩ := FB.all F5
        have k3 := CB.c0 C5
        have k4 := CB.c1 C5
        have k5 := CB.c2 C5
        have k6 := CB.c3 C5
        change bodyPost _ _ _ _ _ (st3 (st4 wx w.heap.size 0 0 0 0) (w.heap.size + 1) (.int .i64 (kk : Int)) (.int .i64 3) (.int .i64 (aa : Int))).drew
        exact bodyPost_ret (v := .tuple #[.agg #[.int .u8 0, .int .u8 0, .int .u8 0, .int .u8 0], .agg #[.int .i64 (kk : Int), .int .i64 3, .int .i64 (aa : Int)]]) (by simp [results, Tryz.results63, go_sem, k0, k1, k2, k3, k4, k5, k6]) rfl ⟨y5, HR.out.2.2.2.trans HX.out.2.2.2.2.2.2.1, .inl ⟨kk, aa, 0, 0, 0, 0, HR.out.2.1, HR.out.2.2.1, rfl, ⟨Blk.drew (Blk.st3 (Blk.st4 hX.out.2.2.2.2.1 (by omega)) (by omega)), ((hX.out.2.2.2.2.2.1.st4 C4 (by omega)).st3 (F4.st4 hcf') (by omega)).drew, (Turn.st3 (Turn.st4 hX.out.2.2.2.2.2.2 (.inr (Nat.le_refl _))) (.inr (by omega))).drew⟩, fun z k => by rw [HX.out.2.2.2.2.2.2.2]; exact HR.out.1 z _⟩⟩
      · have C5 : CB w5 w.heap.size 0 0 0 0 := Blk.turn HB.out.2.2.1 T5 (by simp only [List.mem_cons, List.not_mem_nil, or_false, not_or]; omega)
        have F5 : FB w5 (w.heap.size + 1) 0 0 0 := FB.turn HB.out.2.2.2.1 T5 (by simp only [List.mem_cons, List.not_mem_nil, or_false, not_or]; omega)
        have HR := Lib.hid (And.intro run (And.intro ha' (And.intro yr yb5)))
        have I5 := I3.to_ HB.out.1.T
        have HU := Lib.hid (And.intro D5 (And.intro E5 (And.intro C5 (And.intro F5 I5))))
        clear d0 d1 d2 dz0 dz1 dz2 dl e0 e1 e2 ez0 ez1 ez2 el D5 E5 C5 F5 run ha' yr yb5 I3 I5 T5
        refine pwp_gen (w := (st3 (w5.setCell ⟨w.heap.size + 2, 1, none⟩ (.int .u8 (v.toNat : Int))) q7 (.int .i64 0) (.int .i64 0) (.int .i64 0))) (S := fun wx => Hid (AB wx (w.heap.size + 2) (u0.toNat : Int) (v.toNat : Int) 0 ∧ CB wx w.heap.size 0 0 0 0 ∧ FB wx (w.heap.size + 1) 0 0 0 ∧ FB wx q7 0 0 0 ∧ RXI w wx p g x q s h av a' y5)) (Lib.hid ⟨Blk.st3 (AB.set_ HU.out.1 (by simp)) h2q, Blk.st3 (Blk.far HU.out.2.2.1 (p := ⟨w.heap.size + 2, 1, none⟩) (show w.heap.size ≠ w.heap.size + 2 by omega) _) (by omega), Blk.st3 (Blk.far HU.out.2.2.2.1 (p := ⟨w.heap.size + 2, 1, none⟩) (show w.heap.size + 1 ≠ w.heap.size + 2 by omega) _) (by omega), FB.st3 (Blk.far HU.out.2.1 (p := ⟨w.heap.size + 2, 1, none⟩) hq2 _), RXI.own (RXI.own HU.out.2.2.2.2 HU.out.1 (by omega) ((Turn.refl _ _).set_ 1 _ (.inl (by simp))) (by decide) (by decide) (by decide) (by decide) (by decide)) (Blk.far HU.out.2.1 (p := ⟨w.heap.size + 2, 1, none⟩) hq2 _) (by omega) (Turn.st3 (Turn.refl _ _) (.inl (by simp))) (by decide) (by decide) (by decide) (by decide) (by decide)⟩) (fun wx hX => ?_)
        obtain ⟨e0, e1, e2, ez0, ez1, ez2, el⟩ := FB.all hX.out.2.2.2.1
        go_wp2_with fail
        go_roundg 1
        case measure => decide
        case rel => exact .inr (.inr (.inl ⟨rfl, rfl, a', y5, u0, v, Lib.hid ⟨hX.out.2.2.2.2, hX.out.1, hX.out.2.1, hX.out.2.2.1, HR.out.2.1, HR.out.2.2.1, HR.out.2.2.2.trans HX.out.2.2.2.2.2.2.1, fun z k => by rw [HX.out.2.2.2.2.2.2.2]; exact HR.out.1 z _⟩⟩))
    · skip
      have I4 := HX.out.1.alloc (.cells #[.int .i64 0, .int .i64 0, .int .i64 0] 33)
      have D4 : AB (wr.alloc (.cells #[.int .i64 0, .int .i64 0, .int .i64 0] 33)) (w.heap.size + 2) (u0.toNat : Int) (u1.toNat : Int) 0 := Blk.alloc HX.out.2.1 _
      have C4 : CB (wr.alloc (.cells #[.int .i64 0, .int .i64 0, .int .i64 0] 33)) w.heap.size 0 0 0 0 := Blk.alloc HX.out.2.2.1 _
      have F4 : FB (wr.alloc (.cells #[.int .i64 0, .int .i64 0, .int .i64 0] 33)) (w.heap.size + 1) 0 0 0 := Blk.alloc HX.out.2.2.2.1 _
      have E4 : FB (wr.alloc (.cells #[.int .i64 0, .int .i64 0, .int .i64 0] 33)) wr.heap.size 0 0 0 := Blk.new _ _ _
      have hlt : w.heap.size + 2 < wr.heap.size := Blk.lt HX.out.2.1
      go_upto_region 8 with fail
      generalize wr.alloc (.cells #[.int .i64 0, .int .i64 0, .int .i64 0] 33) = w3 at I4 D4 C4 F4 E4 ⊢
      generalize wr.heap.size = q7 at hlt E4 ⊢
      have HS0 := nextC I4.from_ HX.out.2.2.2.2.1 HH.out.2 HH.out.1 HX.out.2.2.2.2.2.1
      unfold RartPost smpNo smpYes ftV ft0 at HS0
      have HS := Lib.hid HS0
      have HB := Lib.hid (And.intro I4 (And.intro D4 (And.intro C4 (And.intro F4 E4))))
      clear HS0 I4 D4 C4 F4 E4
      have h2q : w.heap.size + 2 ≠ q7 := by omega
      have hq2 : q7 ≠ w.heap.size + 2 := by omega
      go_upto_region 9 with (go_at_call 89; refine HS.out.mono ?_; rintro e w5 ⟨y5, yb5, hor⟩; have T5 : Turn [p, g, q] w3 w5 := hor.elim (fun ⟨_, _, _, _, _, L, _⟩ => L.2.2) (fun ⟨_, _, _, I, _⟩ => I.T); have D5 : AB w5 (w.heap.size + 2) (u0.toNat : Int) (u1.toNat : Int) 0 := Blk.turn HB.out.2.1 T5 (by simp only [List.mem_cons, List.not_mem_nil, or_false, not_or]; omega); have E5 : FB w5 q7 0 0 0 := FB.turn HB.out.2.2.2.2 T5 (by simp only [List.mem_cons, List.not_mem_nil, or_false, not_or]; omega); obtain ⟨e0, e1, e2, ez0, ez1, ez2, el⟩ := FB.all E5; obtain ⟨d0, d1, d2, dz0, dz1, dz2, dl⟩ := AB.all D5; rcases hor with ⟨kk, aa, hk, yok, rfl, L3, run⟩ | ⟨⟨v, a'⟩, rfl, ha', I3, yr, run⟩)
      · have C5 : CB w5 w.heap.size 0 0 0 0 := Blk.turn HB.out.2.2.1 T5 (by simp only [List.mem_cons, List.not_mem_nil, or_false, not_or]; omega)
        have F5 : FB w5 (w.heap.size + 1) 0 0 0 := FB.turn HB.out.2.2.2.1 T5 (by simp only [List.mem_cons, List.not_mem_nil, or_false, not_or]; omega)
        have HR := Lib.hid (And.intro run (And.intro hk (And.intro yok yb5)))
        have HL := Lib.hid (And.intro L3.1 (And.intro L3.2.1 (HB.out.1.T.trans L3.2.2)))
        have HU := Lib.hid (And.intro D5 (And.intro E5 (And.intro C5 F5)))
        have hki : ((kk : Int) != 0) = true := bne_iff_ne.2 (by omega)
        clear d0 d1 d2 dz0 dz1 dz2 dl e0 e1 e2 ez0 ez1 ez2 el D5 E5 C5 F5 run hk yok yb5 L3 T5
        refine pwp_gen (w := (st3 (w5.setCell ⟨w.heap.size + 2, 2, none⟩ (.int .u8 0)) q7 (.int .i64 (kk : Int)) (.int .i64 3) (.int .i64 (aa : Int)))) (S := fun wx => Hid (AB wx (w.heap.size + 2) (u0.toNat : Int) (u1.toNat : Int) 0 ∧ CB wx w.heap.size 0 0 0 0 ∧ FB wx (w.heap.size + 1) 0 0 0 ∧ FB wx q7 (kk : Int) 3 (aa : Int) ∧ LedAt wx g y5 ∧ SclA wx q h.M av ∧ Turn [p, g, q] w wx)) (Lib.hid ⟨Blk.st3 (AB.set_ HU.out.1 (by simp)) h2q, Blk.st3 (Blk.far HU.out.2.2.1 (p := ⟨w.heap.size + 2, 2, none⟩) (show w.heap.size ≠ w.heap.size + 2 by omega) _) (by omega), Blk.st3 (Blk.far HU.out.2.2.2 (p := ⟨w.heap.size + 2, 2, none⟩) (show w.heap.size + 1 ≠ w.heap.size + 2 by omega) _) (by omega), FB.st3 (Blk.far HU.out.2.1 (p := ⟨w.heap.size + 2, 2, none⟩) hq2 _), Blk.st3 (Blk.far HL.out.1 (p := ⟨w.heap.size + 2, 2, none⟩) (show g ≠ w.heap.size + 2 by omega) _) (by omega), (HL.out.2.1.turn (S := [w.heap.size + 2]) (w' := w5.setCell ⟨w.heap.size + 2, 2, none⟩ (.int .u8 0)) ((Turn.refl _ _).set_ 2 _ (.inl (by simp))) (by simp; omega) (fun i hi => by simp only [List.mem_cons, List.not_mem_nil, or_false] at hi; subst hi; exact .inr ⟨_, _, HU.out.1, by decide⟩)).st3 (k := 0) (f := 0) (i := 0) (Blk.far HU.out.2.1 (p := ⟨w.heap.size + 2, 2, none⟩) hq2 _) (by omega), Turn.st3 (HL.out.2.2.set_ 2 _ (.inr (by omega))) (.inr (by omega))⟩) (fun wx hX => ?_)
        have C4 := hX.out.2.1
        have F4 := hX.out.2.2.1
        obtain ⟨e0, e1, e2, ez0, ez1, ez2, el⟩ := FB.all hX.out.2.2.2.1
        obtain ⟨f0, f1, f2, z0, z1, z2, fl⟩ := FB.all F4
        have r0 := CB.c0 C4
        have r1 := CB.c1 C4
        have r2 := CB.c2 C4
        have r3 := CB.c3 C4
        have rz0 := Blk.frozen C4 0
        have rz1 := Blk.frozen C4 1
        have rz2 := Blk.frozen C4 2
        have rz3 := Blk.frozen C4 3
        have rl := Blk.lt C4
        have hcf : w.heap.size ≠ w.heap.size + 1 := by omega
        have hcq : w.heap.size ≠ q7 := by omega
        have hfq : w.heap.size + 1 ≠ q7 := by omega
        have hcf' := hcf.symm
        have hcq' := hcq.symm
        have hfq' := hfq.symm
        go_upto_region 10 with fail
        go_region
        all_goals go_wp2_with fail
        have C5 : CB (st3 (st4 wx w.heap.size 0 0 0 0) (w.heap.size + 1) (.int .i64 (kk : Int)) (.int .i64 3) (.int .i64 (aa : Int))).drew w.heap.size 0 0 0 0 := Blk.drew (Blk.st3 (CB.store C4) hcf)
        have F5 : FB (st3 (st4 wx w.heap.size 0 0 0 0) (w.heap.size + 1) (.int .i64 (kk : Int)) (.int .i64 3) (.int .i64 (aa : Int))).drew (w.heap.size + 1) (kk : Int) 3 (aa : Int) := Blk.drew (FB.st3 (F4.st4 hcf'))
        obtain ⟨k0, k1, k2, _⟩ := FB.all F5
        have k3 := CB.c0 C5
        have k4 := CB.c1 C5
        have k5 := CB.c2 C5
        have k6 := CB.c3 C5
        change bodyPost _ _ _ _ _ (st3 (st4 wx w.heap.size 0 0 0 0) (w.heap.size + 1) (.int .i64 (kk : Int)) (.int .i64 3) (.int .i64 (aa : Int))).drew
        exact bodyPost_ret (v := .tuple #[.agg #[.int .u8 0, .int .u8 0, .int .u8 0, .int .u8 0], .agg #[.int .i64 (kk : Int), .int .i64 3, .int .i64 (aa : Int)]]) (by simp [results, Tryz.results63, go_sem, k0, k1, k2, k3, k4, k5, k6]) rfl ⟨y5, HR.out.2.2.2.trans HX.out.2.2.2.2.2.2.1, .inl ⟨kk, aa, 0, 0, 0, 0, HR.out.2.1, HR.out.2.2.1, rfl, ⟨Blk.drew (Blk.st3 (Blk.st4 hX.out.2.2.2.2.1 (by omega)) (by omega)), ((hX.out.2.2.2.2.2.1.st4 C4 (by omega)).st3 (F4.st4 hcf') (by omega)).drew, (Turn.st3 (Turn.st4 hX.out.2.2.2.2.2.2 (.inr (Nat.le_refl _))) (.inr (by omega))).drew⟩, fun z k => by rw [HX.out.2.2.2.2.2.2.2]; exact HR.out.1 z _⟩⟩
      · have C5 : CB w5 w.heap.size 0 0 0 0 := Blk.turn HB.out.2.2.1 T5 (by simp only [List.mem_cons, List.not_mem_nil, or_false, not_or]; omega)
        have F5 : FB w5 (w.heap.size + 1) 0 0 0 := FB.turn HB.out.2.2.2.1 T5 (by simp only [List.mem_cons, List.not_mem_nil, or_false, not_or]; omega)
        have HR := Lib.hid (And.intro run (And.intro ha' (And.intro yr yb5)))
        have I5 := I3.to_ HB.out.1.T
        have HU := Lib.hid (And.intro D5 (And.intro E5 (And.intro C5 (And.intro F5 I5))))
        clear d0 d1 d2 dz0 dz1 dz2 dl e0 e1 e2 ez0 ez1 ez2 el D5 E5 C5 F5 run ha' yr yb5 I3 I5 T5
        refine pwp_gen (w := (st3 (w5.setCell ⟨w.heap.size + 2, 2, none⟩ (.int .u8 (v.toNat : Int))) q7 (.int .i64 0) (.int .i64 0) (.int .i64 0))) (S := fun wx => Hid (AB wx (w.heap.size + 2) (u0.toNat : Int) (u1.toNat : Int) (v.toNat : Int) ∧ CB wx w.heap.size 0 0 0 0 ∧ FB wx (w.heap.size + 1) 0 0 0 ∧ FB wx q7 0 0 0 ∧ RXI w wx p g x q s h av a' y5)) (Lib.hid ⟨Blk.st3 (AB.set_ HU.out.1 (by simp)) h2q, Blk.st3 (Blk.far HU.out.2.2.1 (p := ⟨w.heap.size + 2, 2, none⟩) (show w.heap.size ≠ w.heap.size + 2 by omega) _) (by omega), Blk.st3 (Blk.far HU.out.2.2.2.1 (p := ⟨w.heap.size + 2, 2, none⟩) (show w.heap.size + 1 ≠ w.heap.size + 2 by omega) _) (by omega), FB.st3 (Blk.far HU.out.2.1 (p := ⟨w.heap.size + 2, 2, none⟩) hq2 _), RXI.own (RXI.own HU.out.2.2.2.2 HU.out.1 (by omega) ((Turn.refl _ _).set_ 2 _ (.inl (by simp))) (by decide) (by decide) (by decide) (by decide) (by decide)) (Blk.far HU.out.2.1 (p := ⟨w.heap.size + 2, 2, none⟩) hq2 _) (by omega) (Turn.st3 (Turn.refl _ _) (.inl (by simp))) (by decide) (by decide) (by decide) (by decide) (by decide)⟩) (fun wx hX => ?_)
        obtain ⟨e0, e1, e2, ez0, ez1, ez2, el⟩ := FB.all hX.out.2.2.2.1
        go_wp2_with fail
        go_roundg 0
        case measure => decide
        case rel => exact .inr (.inr (.inr ⟨rfl, rfl, a', y5, u0, u1, v, Lib.hid ⟨hX.out.2.2.2.2, hX.out.1, hX.out.2.1, hX.out.2.2.1, HR.out.2.1, HR.out.2.2.1, HR.out.2.2.2.trans HX.out.2.2.2.2.2.2.1, fun z k => by rw [HX.out.2.2.2.2.2.2.2]; exact HR.out.1 z _⟩⟩))
    · skip
      obtain ⟨d0, d1, d2, dz0, dz1, dz2, dl⟩ := AB.all HX.out.2.1
      have HOP := Lib.hid (opaqueC u0 u1 u2)
      go_wp2_with (go_at_call 87; refine (HOP.out _).mono ?_; rintro e w9 ⟨rfl, b9⟩; have I9 := HX.out.1.below b9; have C4 : CB w9 w.heap.size 0 0 0 0 := Blk.below HX.out.2.2.1 b9 (Blk.lt HX.out.2.2.1); have F4 : FB w9 (w.heap.size + 1) 0 0 0 := Blk.below HX.out.2.2.2.1 b9 (Blk.lt HX.out.2.2.2.1); obtain ⟨f0, f1, f2, z0, z1, z2, fl⟩ := FB.all F4; have r0 := CB.c0 C4; have r1 := CB.c1 C4; have r2 := CB.c2 C4; have r3 := CB.c3 C4; have rz0 := Blk.frozen C4 0; have rz1 := Blk.frozen C4 1; have rz2 := Blk.frozen C4 2; have rz3 := Blk.frozen C4 3; have rl := Blk.lt C4)
      have hcf : w.heap.size ≠ w.heap.size + 1 := by omega
      have hcf' := hcf.symm
      have C5 : CB (st3 (st4 w9 w.heap.size (u0.toNat : Int) (u1.toNat : Int) (u2.toNat : Int) 255) (w.heap.size + 1) (.int .i64 0) (.int .i64 0) (.int .i64 0)) w.heap.size (u0.toNat : Int) (u1.toNat : Int) (u2.toNat : Int) 255 := Blk.st3 (CB.store C4) hcf
      have F5 : FB (st3 (st4 w9 w.heap.size (u0.toNat : Int) (u1.toNat : Int) (u2.toNat : Int) 255) (w.heap.size + 1) (.int .i64 0) (.int .i64 0) (.int .i64 0)) (w.heap.size + 1) 0 0 0 := FB.st3 (F4.st4 hcf')
      obtain ⟨k0, k1, k2, _⟩ := FB.all F5
      have k3 := CB.c0 C5
      have k4 := CB.c1 C5
      have k5 := CB.c2 C5
      have k6 := CB.c3 C5
      change bodyPost _ _ _ _ _ (st3 (st4 w9 w.heap.size (u0.toNat : Int) (u1.toNat : Int) (u2.toNat : Int) 255) (w.heap.size + 1) (.int .i64 0) (.int .i64 0) (.int .i64 0))
      exact bodyPost_ret (v := .tuple #[(col3 [u0, u1, u2]).v, .agg #[.int .i64 0, .int .i64 0, .int .i64 0]]) (by simp [results, Tryz.results63, go_sem, col3, grayQ, Qc.v, k0, k1, k2, k3, k4, k5, k6]) rfl ⟨y2, HX.out.2.2.2.2.2.2.1, .inr ⟨(col3 [u0, u1, u2]), a2, rfl, HX.out.2.2.2.2.1, RXI.own (RXI.own I9 C4 (Nat.le_refl _) (Turn.st4 (Turn.refl _ _) (.inl (by simp))) (by decide) (by decide) (by decide) (by decide) (by decide)) (F4.st4 hcf') (by omega) (Turn.st3 (Turn.refl _ _) (.inl (by simp))) (by decide) (by decide) (by decide) (by decide) (by decide), HX.out.2.2.2.2.2.1, fun z k => by rw [HX.out.2.2.2.2.2.2.2]; rfl⟩⟩
end Go.Proofs.YthljhebbblhakaaGreatDoor
