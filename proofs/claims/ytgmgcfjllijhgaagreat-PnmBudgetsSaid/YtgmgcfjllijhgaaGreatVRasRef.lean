/- pnmraw.Read: all kinds. Plain: what the pixels of a PNM file tell. An image's box; what holds in a writing's loops. A decoder's run: a new ledger, a source over all of a text, the raster's image. The document's raster: New, Is. The document's raster: Flip. The document's raster: Set. -/
import Derived.Test.YtgmgcfjllijhgaaGreatVPnmBm
import Derived.Test.YtgmgcfjllijhgaaGreatVPnmE
import Derived.Test.YtgmgcfjllijhgaaGreatVWords
import Derived.Test.YtgmgcfjllijhgaaGreatVRas
import Derived.ArgAppend
import Derived.Lib.SlBytesConst
import Derived.Test.YtgmgcfjllijhgaaGreatVRasWays
import Derived.Test.YtgmgcfjllijhgaaGreatVWays
namespace Go.Proofs.YtgmgcfjllijhgaaGreat
open Go.RowKit
set_option linter.unusedVariables false
set_option linter.unusedSimpArgs false

set_option maxRecDepth 100000 in
set_option maxHeartbeats 4000000 in
theorem rawRead_four {w : World} {p g r b d : Nat} {s : ByteArray} {h : HeadR} {y : Led} (hh : HeadOk s h) (hsm : s.size ≤ 1099511627776) (hk4 : h.K = 4) (S0 : SrcAt w p g s 0 s.size h.At) (G0 : LedAt w g y) (R0 : RasAt w r g b (h.W : Int) (h.H : Int) true) (D0 : BufAt w b g d (pixL [] (4 * (h.W * h.H)))) (ok : y.Ok) (hr : y.reason = 0) :
  Calls Tryz.prog 46 #[.pointer (some ⟨p, 0, none⟩), headV5 h, .pointer (some ⟨r, 0, none⟩)] w fun e w' => BodyPost w w' p g r b d s h y e := by
 have u2 : Below w.heap.size w ((w.alloc (.cells #[.int .i64 (h.K : Int), .int .i64 (h.W : Int), .int .i64 (h.H : Int), .int .i64 (h.M : Int), .int .i64 (h.At : Int)] 69)).alloc (.cells #[.int .i64 0, .int .i64 0, .int .i64 0] 34)) := ((Below.refl _ _).alloc (Nat.le_refl _) _).alloc (by simp) _
 have F2 : FB ((w.alloc (.cells #[.int .i64 (h.K : Int), .int .i64 (h.W : Int), .int .i64 (h.H : Int), .int .i64 (h.M : Int), .int .i64 (h.At : Int)] 69)).alloc (.cells #[.int .i64 0, .int .i64 0, .int .i64 0] 34)) (w.heap.size + 1) 0 0 0 := Blk.new_at _ _ _ (by simp)
 have hpw := Blk.lt S0
 have hgw := Blk.lt G0
 have hdw : d < w.heap.size := Blk.lt D0.row
 have HBM := Lib.hid (bitmapC hh hsm hk4 (Blk.below S0 u2 (Blk.lt S0)) (Blk.below G0 u2 (Blk.lt G0)) (Blk.below R0 u2 (Blk.lt R0)) ⟨Blk.below D0.blk u2 (Blk.lt D0.blk), Blk.below D0.row u2 (Blk.lt D0.row)⟩ ok hr)
 unfold headV5 at HBM
 have k4 : ((h.K : Int) == 4) = true := by rw [beq_iff_eq]; omega
 have HU := Lib.hid u2
 unfold headV5
 clear u2 S0 G0 R0 D0 ok hr hh hsm hk4
 go_enter Tryz.func46, Tryz.ntmps46
 go_wp2_with (go_at_call 73; refine HBM.out.mono ?_; rintro e w5 hB; unfold BodyPost at hB; obtain ⟨y5, l5, g5, ok5, yb5, t5, r5, d5, hl5, hor⟩ := hB; have F5 : FB w5 (w.heap.size + 1) 0 0 0 := FB.turn F2 t5 (by simp only [List.mem_cons, List.not_mem_nil, or_false, not_or]; omega); obtain ⟨f0, f1, f2, z0, z1, z2, fl⟩ := FB.all F5; have HK := Lib.hid (And.intro g5 (And.intro ok5 (And.intro yb5 (And.intro ((Turn.of_below HU.out).trans t5) (And.intro r5 (And.intro d5 hl5)))))); clear g5 ok5 yb5 t5 r5 d5 hl5; rcases hor with ⟨kk, aa, hk, rfl, run⟩ | ⟨rfl, yr, L, hL, hl, run⟩)
 ·have HOR : Hid ((∃ kk' aa' : Nat, kk' ≠ 0 ∧ Ending.returned (.agg #[.int .i64 (kk : Int), .int .i64 3, .int .i64 (aa : Int)]) = .returned (.agg #[.int .i64 (kk' : Int), .int .i64 3, .int .i64 (aa' : Int)]) ∧ ∀ z, (bodyD s h z).run y = ((y5.give (z : Int)).1, .bad kk' aa')) ∨ (Ending.returned (.agg #[.int .i64 (kk : Int), .int .i64 3, .int .i64 (aa : Int)]) = .returned (.agg #[.int .i64 0, .int .i64 0, .int .i64 0]) ∧ y5.reason = 0 ∧ ∃ L : List Qc, L.length = h.W * h.H ∧ l5 = flat L ∧ ∀ z, (bodyD s h z).run y = (y5, .img h.W h.H (flat L)))) := Lib.hid (.inl ⟨kk, aa, hk, rfl, run⟩)
  clear hk run
  have F6 : FB (st3 w5 (w.heap.size + 1) (.int .i64 (kk : Int)) (.int .i64 3) (.int .i64 (aa : Int))) (w.heap.size + 1) (kk : Int) 3 (aa : Int) := FB.st3 F5
  obtain ⟨k0, k1, k2, _⟩ := FB.all F6
  change bodyPost _ _ _ _ _ (st3 w5 (w.heap.size + 1) (.int .i64 (kk : Int)) (.int .i64 3) (.int .i64 (aa : Int)))
  exact bodyPost_ret (v := .agg #[.int .i64 (kk : Int), .int .i64 3, .int .i64 (aa : Int)]) (by simp [results, Tryz.results46, go_sem, k0, k1, k2]) rfl ⟨y5, l5, Blk.st3 HK.out.1 (Blk.ne_ HK.out.1 F5 (by decide)), HK.out.2.1, HK.out.2.2.1, Turn.st3 HK.out.2.2.2.1 (.inr (by omega)), Blk.st3 HK.out.2.2.2.2.1 (Blk.ne_ HK.out.2.2.2.2.1 F5 (by decide)), ⟨Blk.st3 HK.out.2.2.2.2.2.1.blk (Blk.ne_ HK.out.2.2.2.2.2.1.blk F5 (by decide)), Blk.st3 HK.out.2.2.2.2.2.1.row (Blk.ne_ HK.out.2.2.2.2.2.1.row F5 (by decide))⟩, HK.out.2.2.2.2.2.2, HOR.out⟩
 ·have HOR : Hid ((∃ kk' aa' : Nat, kk' ≠ 0 ∧ Ending.returned (.agg #[.int .i64 0, .int .i64 0, .int .i64 0]) = .returned (.agg #[.int .i64 (kk' : Int), .int .i64 3, .int .i64 (aa' : Int)]) ∧ ∀ z, (bodyD s h z).run y = ((y5.give (z : Int)).1, .bad kk' aa')) ∨ (Ending.returned (.agg #[.int .i64 0, .int .i64 0, .int .i64 0]) = .returned (.agg #[.int .i64 0, .int .i64 0, .int .i64 0]) ∧ y5.reason = 0 ∧ ∃ L : List Qc, L.length = h.W * h.H ∧ l5 = flat L ∧ ∀ z, (bodyD s h z).run y = (y5, .img h.W h.H (flat L)))) := Lib.hid (.inr ⟨rfl, yr, L, hL, hl, run⟩)
  clear yr hL hl run
  have F6 : FB (st3 w5 (w.heap.size + 1) (.int .i64 0) (.int .i64 0) (.int .i64 0)) (w.heap.size + 1) 0 0 0 := FB.st3 F5
  obtain ⟨k0, k1, k2, _⟩ := FB.all F6
  change bodyPost _ _ _ _ _ (st3 w5 (w.heap.size + 1) (.int .i64 0) (.int .i64 0) (.int .i64 0))
  exact bodyPost_ret (v := .agg #[.int .i64 0, .int .i64 0, .int .i64 0]) (by simp [results, Tryz.results46, go_sem, k0, k1, k2]) rfl ⟨y5, l5, Blk.st3 HK.out.1 (Blk.ne_ HK.out.1 F5 (by decide)), HK.out.2.1, HK.out.2.2.1, Turn.st3 HK.out.2.2.2.1 (.inr (by omega)), Blk.st3 HK.out.2.2.2.2.1 (Blk.ne_ HK.out.2.2.2.2.1 F5 (by decide)), ⟨Blk.st3 HK.out.2.2.2.2.2.1.blk (Blk.ne_ HK.out.2.2.2.2.2.1.blk F5 (by decide)), Blk.st3 HK.out.2.2.2.2.2.1.row (Blk.ne_ HK.out.2.2.2.2.2.1.row F5 (by decide))⟩, HK.out.2.2.2.2.2.2, HOR.out⟩
theorem rawReadC {w : World} {p g r b d : Nat} {s : ByteArray} {h : HeadR} {y : Led} (hh : HeadOk s h) (hsm : s.size ≤ 1099511627776) (hK : ¬ h.K ≤ 3) (S0 : SrcAt w p g s 0 s.size h.At) (G0 : LedAt w g y) (R0 : RasAt w r g b (h.W : Int) (h.H : Int) true) (D0 : BufAt w b g d (pixL [] (4 * (h.W * h.H)))) (ok : y.Ok) (hr : y.reason = 0) :
  Calls Tryz.prog 46 #[.pointer (some ⟨p, 0, none⟩), headV5 h, .pointer (some ⟨r, 0, none⟩)] w fun e w' => BodyPost w w' p g r b d s h y e := by
 by_cases h4 : h.K = 4
 ·exact rawRead_four hh hsm h4 S0 G0 R0 D0 ok hr
 ·by_cases h6 : h.K = 6
  ·exact rawRead_six hh hsm hK h4 h6 S0 G0 R0 D0 ok hr
  ·exact rawRead_five hh hsm hK h4 h6 S0 G0 R0 D0 ok hr
end Go.Proofs.YtgmgcfjllijhgaaGreat
namespace Go.Proofs.YtgmgcfjllijhgaaGreat
set_option linter.unusedVariables false

/-- what a step tells: a fault's kind and place, or a result -/
abbrev Out (α : Type) := (Nat × Nat) ⊕ α
def Out.told {α : Type} (x : Out α) (k : α → DRes) : DRes := match x with
 | .inl b => .bad b.1 b.2
 | .inr r => k r
def Out.bind {α β : Type} (x : Out α) (f : α → Out β) : Out β := match x with
 | .inl b => .inl b
 | .inr r => f r
theorem Out.told_bind {α β : Type} (x : Out α) (f : α → Out β) (k : β → DRes) : (x.bind f).told k = x.told fun r => (f r).told k := by
 cases x <;> rfl
def smpR (s : ByteArray) (M a : Nat) : Out (UInt8 × Nat) :=
 if (numberAt (nats s) a).Kind ≠ 0 then .inl ((numberAt (nats s) a).Kind, (numberAt (nats s) a).Place) else if M < (numberAt (nats s) a).V then .inl (2, (numberAt (nats s) a).At) else .inr (smp8 (numberAt (nats s) a).V M, (numberAt (nats s) a).Next)
def bitR (s : ByteArray) (a : Nat) : Out (Qc × Nat) :=
 if (digitAt (nats s) a).Kind ≠ 0 then .inl ((digitAt (nats s) a).Kind, (digitAt (nats s) a).Place) else .inr (grayQ (UInt8.ofNat (255 * (1 - (digitAt (nats s) a).V))), (digitAt (nats s) a).Next)
def tpixR (s : ByteArray) (K M : Nat) (a : Nat) : Out (Qc × Nat) :=
 if K = 1 then bitR s a else if K = 3 then ((smpR s M a).bind fun r => (smpR s M r.2).bind fun g => (smpR s M g.2).bind fun b => .inr (⟨r.1, g.1, b.1, 255⟩, b.2)) else (smpR s M a).bind fun r => .inr (grayQ r.1, r.2)
def rsmpR (s : ByteArray) (q M a : Nat) : Out (UInt8 × Nat) := if a + q ≤ s.size then (if M < beN s a q then .inl (2, a) else .inr (smp8 (beN s a q) M, a + q)) else .inl (1, s.size)
def rpixR (s : ByteArray) (K q M : Nat) (a : Nat) : Out (Qc × Nat) :=
 if K = 6 then ((rsmpR s q M a).bind fun r => (rsmpR s q M r.2).bind fun g => (rsmpR s q M g.2).bind fun b => .inr (⟨r.1, g.1, b.1, 255⟩, b.2)) else (rsmpR s q M a).bind fun r => .inr (grayQ r.1, r.2)
def bpixR (s : ByteArray) (W : Nat) (t : Nat × Nat × Nat) : Out (Qc × Nat × Nat × Nat) :=
 if t.1 % 8 = 0 then (if t.2.1 < s.size then .inr (bitQ (bat s t.2.1) 0, (if t.1 + 1 = W then 0 else t.1 + 1), t.2.1 + 1, bat s t.2.1) else .inl (1, s.size))
 else .inr (bitQ t.2.2 (t.1 % 8), (if t.1 + 1 = W then 0 else t.1 + 1), t.2.1, t.2.2)
def pixsR {σ : Type} (W H : Nat) (step : σ → Out (Qc × σ)) : Nat → σ → List Qc → DRes
 | 0, _, L => .img W H (flat L)
 | m + 1, t, L => (step t).told fun r => pixsR W H step m r.2 (L ++ [r.1])
section
variable {s : ByteArray} {a z M q K W H : Nat}
theorem smpD_told {k : UInt8 × Nat → Dec} : (smpD s M a z k).told = (smpR s M a).told fun r => (k r).told := by
 unfold smpD smpR
 rw [numD_told, gotD_told]
 split
 ·rfl
 ·split <;> rfl
theorem bitD_told {k : Qc × Nat → Dec} : (bitD s a z k).told = (bitR s a).told fun r => (k r).told := by
 unfold bitD bitR
 rw [digD_told, gotD_told]
 split <;> rfl
theorem tpixD_told {k : Qc × Nat → Dec} : (tpixD s K M z a k).told = (tpixR s K M a).told fun r => (k r).told := by
 unfold tpixD tpixR
 by_cases h1 : K = 1
 ·rw [if_pos h1, if_pos h1, bitD_told]
 ·rw [if_neg h1, if_neg h1]
  by_cases h3 : K = 3
  ·rw [if_pos h3, if_pos h3, smpD_told, Out.told_bind]
   congr 1; funext r
   rw [smpD_told, Out.told_bind]
   congr 1; funext g
   rw [smpD_told, Out.told_bind]
   rfl
  ·rw [if_neg h3, if_neg h3, smpD_told, Out.told_bind]
   rfl
theorem rsmpD_told {k : UInt8 × Nat → Dec} : (rsmpD s q M a z k).told = (rsmpR s q M a).told fun r => (k r).told := by
 unfold rsmpR
 show (if a + q ≤ s.size then (if M < beN s a q then badD z 2 a else k (smp8 (beN s a q) M, a + q)) else badD z 1 s.size).told = _
 split
 ·split <;> rfl
 ·rfl
theorem rpixD_told {k : Qc × Nat → Dec} : (rpixD s K q M z a k).told = (rpixR s K q M a).told fun r => (k r).told := by
 unfold rpixD rpixR
 by_cases h3 : K = 6
 ·rw [if_pos h3, if_pos h3, rsmpD_told, Out.told_bind]
  congr 1; funext r
  rw [rsmpD_told, Out.told_bind]
  congr 1; funext g
  rw [rsmpD_told, Out.told_bind]
  rfl
 ·rw [if_neg h3, if_neg h3, rsmpD_told, Out.told_bind]
  rfl
theorem bpixD_told {t : Nat × Nat × Nat} {k : Qc × Nat × Nat × Nat → Dec} : (bpixD s W z t k).told = (bpixR s W t).told fun r => (k r).told := by
 unfold bpixD bpixR
 split
 ·rw [byteD_told]
  split <;> rfl
 ·rfl
theorem pixsD_told {σ : Type} {step : σ → (Qc × σ → Dec) → Dec} {stepR : σ → Out (Qc × σ)} {pl : σ → Nat} (h : ∀ t k, (step t k).told = (stepR t).told fun r => (k r).told) : ∀ (m : Nat) (t : σ) (L : List Qc), (pixsD W H z step pl m t L).told = pixsR W H stepR m t L
 | 0, t, L => rfl
 | m + 1, t, L => by
  show (step t _).told = _
  rw [h]
  show _ = (stepR t).told _
  congr 1; funext r
  exact pixsD_told h m r.2 (L ++ [r.1])
end
/-- what the pixels behind a head tell -/
def bodyR (s : ByteArray) (h : HeadR) : DRes :=
 if h.K ≤ 3 then pixsR h.W h.H (tpixR s h.K h.M) (h.W * h.H) h.At []
 else if h.K = 4 then pixsR h.W h.H (bpixR s h.W) (h.W * h.H) (0, h.At, 0) []
 else pixsR h.W h.H (rpixR s h.K (if 255 < h.M then 2 else 1) h.M) (h.W * h.H) h.At []
theorem bodyD_told (s : ByteArray) (h : HeadR) (z : Nat) : (bodyD s h z).told = bodyR s h := by
 unfold bodyD bodyR
 split
 ·exact pixsD_told (step := tpixD s h.K h.M z) (stepR := tpixR s h.K h.M) (fun t k => tpixD_told) _ _ _
 ·split
  ·exact pixsD_told (step := bpixD s h.W z) (stepR := bpixR s h.W) (fun t k => bpixD_told) _ _ _
  ·exact pixsD_told (step := rpixD s h.K (if 255 < h.M then 2 else 1) h.M z) (stepR := rpixR s h.K (if 255 < h.M then 2 else 1) h.M) (fun t k => rpixD_told) _ _ _
theorem pnmDec_told (s : ByteArray) : (pnmDec s).told = if (headAt (nats s)).Kind ≠ 0 then .bad (headAt (nats s)).Kind (headAt (nats s)).Place else bodyR s (headAt (nats s)) := by
 unfold pnmDec
 rw [headD_told]
 split
 ·rfl
 ·show (bodyD s (headAt (nats s)) _).told = _
  rw [bodyD_told]
end Go.Proofs.YtgmgcfjllijhgaaGreat
namespace Go.Proofs.YtgmgcfjllijhgaaGreat
open Go.RowKit
set_option linter.unusedVariables false
set_option linter.unusedSimpArgs false

/-- an image's box -/
def im3 (W H : Int) (a : Option Addr) (n c : Nat) : Array Value := #[.int .i64 W, .int .i64 H, .slice a n c]
def IB (w : World) (b : Nat) (W H : Int) (a : Option Addr) (n c : Nat) : Prop := Blk w b 32 (im3 W H a n c)
section
variable {w w' : World} {b : Nat} {W H W' H' : Int} {a a' : Option Addr} {n c n' c' : Nat} {S : List Nat}
theorem IB.new (w : World) (W H : Int) (a : Option Addr) (n c : Nat) : IB (w.alloc (.cells #[.int .i64 W, .int .i64 H, .slice a n c] 32)) w.heap.size W H a n c := Blk.new _ _ _
theorem IB.all (h : IB w b W H a n c) : w.cell? ⟨b, 0, none⟩ = some (.int .i64 W) ∧ w.cell? ⟨b, 1, none⟩ = some (.int .i64 H) ∧ w.cell? ⟨b, 2, none⟩ = some (.slice a n c) ∧ w.frozen? ⟨b, 0, none⟩ = false ∧ w.frozen? ⟨b, 1, none⟩ = false ∧ w.frozen? ⟨b, 2, none⟩ = false ∧ b < w.heap.size :=
 ⟨Blk.cell h 0, Blk.cell h 1, Blk.cell h 2, Blk.frozen h 0, Blk.frozen h 1, Blk.frozen h 2, Blk.lt h⟩
end
/-- what holds in Write's loops -/
structure WrI (w0 w : World) (W H n c b off : Nat) (l : List UInt8) : Prop where
 I : IB w w0.heap.size (W : Int) (H : Int) (some ⟨b, off, none⟩) n c
 C : ∀ j (hj : j < l.length), w.cell? ⟨b, off + j, none⟩ = some (.int .u8 (l[j].toNat : Int))
 B : Below w0.heap.size w0 w
theorem WrI.next {w0 w w' : World} {W H n c b off : Nat} {l : List UInt8} (h : WrI w0 w W H n c b off l) (hb : Below w.heap.size w w') : WrI w0 w' W H n c b off l :=
 ⟨Blk.below h.I hb (Blk.lt h.I), fun j hj => (hb.cell (p := ⟨b, off + j, none⟩) (World.block_lt_of_cell? w _ (h.C j hj))).trans (h.C j hj), below_next h.B hb⟩
theorem WrI.grow {w0 w w' : World} {W H n c b off : Nat} {l : List UInt8} {base : Nat} {v : Value} {m : List UInt8} (h : WrI w0 w W H n c b off l) (o : Owns8 w base v m) (hg : w.grownBy w' v.ownBlock) (hb : Below w0.heap.size w0 w') (hbw : b < w0.heap.size) (hbb : w0.heap.size ≤ base) : WrI w0 w' W H n c b off l :=
 ⟨h.I.grown hg (fun e => by
  rcases o.2 with ⟨rfl, _⟩ | ⟨r, cap, cur, rfl, _, hr, _⟩
  ·cases e
  ·have hk : w0.heap.size = r := by simpa [Value.ownBlock] using e
   subst hk
   exact Blk.ne_ h.I hr (by decide) rfl), fun j hj => by
  have h1 := h.C j hj
  refine (World.cell?_of_block (hg.block b (World.block_lt_of_cell? w _ h1) (fun e => ?_))).trans h1
  rcases o.2 with ⟨rfl, _⟩ | ⟨r, cap, cur, rfl, hr0, hr, _⟩
  ·cases e
  ·have hk : b = r := by simpa [Value.ownBlock] using e
   omega, hb⟩
theorem WrI.turn {S : List Nat} {w0 w w' : World} {W H n c b off : Nat} {l : List UInt8} (h : WrI w0 w W H n c b off l) (t : Turn S w w') (hS : ∀ i ∈ S, w0.heap.size < i) (hbw : b < w0.heap.size) : WrI w0 w' W H n c b off l :=
 ⟨Blk.turn h.I t (fun e => by have := hS _ e; omega), fun j hj => (t.cell (World.block_lt_of_cell? w _ (h.C j hj)) (fun e => by have := hS b e; omega) _).trans (h.C j hj), Turn.belowNext h.B t (fun i hi => by have := hS i hi; omega) h.B.size⟩
theorem WrI.drew {w0 w : World} {W H n c b off : Nat} {l : List UInt8} (h : WrI w0 w W H n c b off l) : WrI w0 w.drew W H n c b off l := ⟨h.I, h.C, h.B.drew⟩
end Go.Proofs.YtgmgcfjllijhgaaGreat
namespace Go.Proofs.YtgmgcfjllijhgaaGreat
open Go.RowKit
set_option linter.unusedVariables false
set_option linter.unusedSimpArgs false

section
variable {w w' : World} {b : Nat} {W H W' H' : Int} {a a' : Option Addr} {n c n' c' : Nat} {S : List Nat}
theorem IB.st3 (h : IB w b W H a n c) : IB (st3 w b (.int .i64 W') (.int .i64 H') (.slice a' n' c')) b W' H' a' n' c' := ((Blk.set_ (Blk.set_ (Blk.set_ h 0 _) 1 _) 2 _)).eq_ (by simp [im3])
end
/-- what a run leaves -/
def RunPost (fm : Int) (D : Dec) (x : Led) (w w' : World) (e : Ending) : Prop :=
 ∃ g y, LedAt w' g y ∧ y.Ok ∧ w.heap.size ≤ g ∧ Below w.heap.size w w' ∧
  ((∃ k a : Nat, k ≠ 0 ∧ D.run x = (y, .bad k a) ∧ e = .returned (.tuple #[.agg #[.int .i64 0, .int .i64 0, .slice none 0 0], .agg #[.int .i64 (k : Int), .int .i64 fm, .int .i64 (a : Int)], .pointer (some ⟨g, 0, none⟩)])) ∨
   (∃ (W H : Nat) (l : List UInt8) (d : Nat), D.run x = (y, .img W H l) ∧ e = .returned (.tuple #[.agg #[.int .i64 (W : Int), .int .i64 (H : Int), .slice (some ⟨d, 0, none⟩) l.length l.length], .agg #[.int .i64 0, .int .i64 0, .int .i64 0], .pointer (some ⟨g, 0, none⟩)]) ∧ BytesAt w' (some ⟨d, 0, none⟩) l.length l))
theorem BytesAt.of_blk {w : World} {d : Nat} {l : List UInt8} (h : Blk w d 5 (C8 l).toArray) : BytesAt w (some ⟨d, 0, none⟩) l.length l := by
 refine ⟨rfl, .inr ⟨d, 0, rfl, fun j hj => ?_⟩⟩
 rw [Nat.zero_add, Blk.cell h j]
 simp [C8, List.getElem?_eq_getElem hj]
set_option maxRecDepth 100000 in
set_option maxHeartbeats 4000000 in
theorem run15 {F : Nat} {fm : Int} {D : Dec} {s : ByteArray} {ba bb bc bd : Int} {x0 : Led} (hx0 : Led.new ba bb bc bd = x0) (hok : x0.Ok) (hr0 : x0.reason = 0) (hsm : s.size ≤ 1099511627776)
  (hent : ∀ p w, (callFunc F #[.pointer (some ⟨p, 0, none⟩)]).run Tryz.prog w = .ok (.enter F #[.pointer (some ⟨p, 0, none⟩)]) w)
  (hdec : ∀ w p g, SrcAt w p g s 0 s.size 0 → LedAt w g x0 → Calls Tryz.prog F #[.pointer (some ⟨p, 0, none⟩)] w fun e w' => DecPost fm D x0 w w' p g e) (w : World) :
  Calls Tryz.prog 21 #[.string s, .agg #[.int .i64 ba, .int .i64 bb, .int .i64 bc, .int .i64 bd], .func (.func F) #[] #[]] w fun e w' => RunPost fm D x0 w w' e := by
 have HD := Lib.hid hdec
 have HX := Lib.hid hx0
 have HSM := Lib.hid hsm
 clear hdec hx0 hsm hok hr0
 go_enter Tryz.func21, Tryz.ntmps21
 go_wp2_with fail
 have A1 : ∃ ws q6 q7, ws = (((w.alloc (.cells #[.int .i64 ba, .int .i64 bb, .int .i64 bc, .int .i64 bd] 47)).alloc (.cells #[.int .i64 0, .int .i64 0, .slice none 0 0] 32)).alloc (.cells #[.int .i64 0, .int .i64 0, .int .i64 0] 34)) ∧ q6 = w.heap.size + 1 ∧ q7 = w.heap.size + 1 + 1 ∧ IB ws q6 0 0 none 0 0 ∧ FB ws q7 0 0 0 ∧ Below w.heap.size w ws :=
  ⟨_, _, _, rfl, rfl, rfl, Blk.alloc (Blk.new_at _ _ _ (by simp)) _, Blk.new_at _ _ _ (by simp), (((Below.refl _ _).alloc (Nat.le_refl _) _).alloc (by simp) _).alloc (by simp; omega) _⟩
 obtain ⟨ws, q6, q7, hws, hq6, hq7, I0, F0, B0⟩ := A1
 have hs6 : w.heap.size ≤ q6 := by omega
 have hs7 : w.heap.size ≤ q7 := by omega
 rw [← hws, ← hq7, ← hq6]
 have hl6 := Blk.lt I0
 have hl7 := Blk.lt F0
 have h67 : q6 ≠ q7 := Blk.ne_ I0 F0 (by decide)
 have I1 := Lib.hid I0
 have F1 := Lib.hid F0
 have B1 := Lib.hid B0
 clear hws hq6 hq7 I0 F0 B0
 refine (ledNew_at HX.out _).mono ?_
 rintro e w1 ⟨g, rfl, hgn, l1, b1⟩
 have hs1 := b1.size
 go_wp2_with (first
  | (go_at_call 36; refine (srcNew_any _ _ _).mono ?_; rintro e w2 ⟨p, rfl, hpn, s2, b2⟩))
 have hs2 := b2.size
 have l2 := Blk.below l1 b2 (Blk.lt l1)
 have I2 : IB w2 q6 0 0 none 0 0 := Blk.below (Blk.below I1.out b1 (by omega)) b2 (by omega)
 have F2 : FB w2 q7 0 0 0 := Blk.below (Blk.below F1.out b1 (by omega)) b2 (by omega)
 have hwS : w.heap.size ≤ ws.heap.size := B1.out.size
 have B2 : Below w.heap.size w w2 := below_next (below_next B1.out b1) b2
 have n6 : q6 ∉ [p, g] := by simp; omega
 have n7 : q7 ∉ [p, g] := by simp; omega
 refine (HD.out _ _ _ s2 l2).mono ?_
 rintro e w3 ⟨y, l3, yok, t3, hor⟩
 have I3 : IB w3 q6 0 0 none 0 0 := Blk.turn I2 t3 n6
 have F3 : FB w3 q7 0 0 0 := Blk.turn F2 t3 n7
 have hs3 := t3.size
 have B3 : Below w.heap.size w w3 := Turn.belowNext B2 t3 (by simp; omega) B2.size
 have HY := Lib.hid yok
 have hgw : w.heap.size ≤ g := by omega
 have hw2 := B2.size
 clear I1 F1 B1 b1 b2 s2 l1 l2 I2 F2 B2 t3 yok hl6 hl7 hs1 hs2 hpn hgn
 rcases hor with ⟨k, a, hk, hrun, rfl⟩ | ⟨W, H, l, r, b, d, hrun, rfl, R3, M3, hrn, hbn, hdn⟩
 ·have HR := Lib.hid hrun
  clear hrun
  go_wp2_with fail
  have I4 : IB (w3.alloc (.cells #[.int .i64 (k : Int), .int .i64 fm, .int .i64 (a : Int)] 34)) q6 0 0 none 0 0 := Blk.alloc I3 _
  have F4 : FB (w3.alloc (.cells #[.int .i64 (k : Int), .int .i64 fm, .int .i64 (a : Int)] 34)) q7 0 0 0 := Blk.alloc F3 _
  have G4 : FB (w3.alloc (.cells #[.int .i64 (k : Int), .int .i64 fm, .int .i64 (a : Int)] 34)) w3.heap.size (k : Int) fm (a : Int) := Blk.new _ _ _
  have L4 : LedAt (w3.alloc (.cells #[.int .i64 (k : Int), .int .i64 fm, .int .i64 (a : Int)] 34)) g y := Blk.alloc l3 _
  have B4 : Below w.heap.size w (w3.alloc (.cells #[.int .i64 (k : Int), .int .i64 fm, .int .i64 (a : Int)] 34)) := B3.alloc B3.size _
  have h78 : q7 ≠ w3.heap.size := Nat.ne_of_lt (Blk.lt F3)
  have h68 : q6 ≠ w3.heap.size := Nat.ne_of_lt (Blk.lt I3)
  generalize w3.alloc (.cells #[.int .i64 (k : Int), .int .i64 fm, .int .i64 (a : Int)] 34) = w4 at I4 F4 G4 L4 B4 ⊢
  generalize w3.heap.size = q at G4 h78 h68 ⊢
  have h87 := h78.symm
  have h86 := h68.symm
  have h76 := h67.symm
  obtain ⟨c0, c1, c2, z0, z1, z2, fl⟩ := IB.all I4
  obtain ⟨d0, d1, d2, y0, y1, y2, gl⟩ := FB.all F4
  obtain ⟨e0, e1, e2, x0', x1, x2, hl⟩ := FB.all G4
  have HL := Lib.hid L4
  have HB := Lib.hid B4
  have hg6 : g ≠ q6 := Blk.ne_ L4 I4 (by decide)
  have hg7 : g ≠ q7 := Blk.ne_ L4 F4 (by decide)
  clear I3 F3 l3 B3 hs3 I4 F4 G4 L4 B4
  go_region
  all_goals go_wp2_with fail
  exact bodyPost_ret (v := .tuple #[.agg #[.int .i64 0, .int .i64 0, .slice none 0 0], .agg #[.int .i64 (k : Int), .int .i64 fm, .int .i64 (a : Int)], .pointer (some ⟨g, 0, none⟩)]) (by simp [results, Tryz.results21, go_sem, c0, c1, c2, d0, d1, d2, h67, h76]) rfl ⟨g, y, (Blk.st3 (Blk.st3 HL.out hg6) hg7).drew, HY.out, hgw, (below_set3 (below_set3 HB.out hs6) hs7).drew, .inl ⟨k, a, hk, HR.out, rfl⟩⟩
 ·have HR := Lib.hid hrun
  clear hrun
  have hl6 := Blk.lt I3
  have hl7 := Blk.lt F3
  have hlr := Blk.lt R3
  have hlb := Blk.lt M3.blk
  have hlg := Blk.lt l3
  have R4 : RasAt (w3.alloc (.cells #[.int .i64 0, .int .i64 0, .int .i64 0] 34)) r g b (W : Int) (H : Int) true := Blk.alloc R3 _
  have M4 : BufAt (w3.alloc (.cells #[.int .i64 0, .int .i64 0, .int .i64 0] 34)) b g d l := ⟨Blk.alloc M3.blk _, Blk.alloc M3.row _⟩
  have I4 : IB (w3.alloc (.cells #[.int .i64 0, .int .i64 0, .int .i64 0] 34)) q6 0 0 none 0 0 := Blk.alloc I3 _
  have F4 : FB (w3.alloc (.cells #[.int .i64 0, .int .i64 0, .int .i64 0] 34)) q7 0 0 0 := Blk.alloc F3 _
  have G4 : FB (w3.alloc (.cells #[.int .i64 0, .int .i64 0, .int .i64 0] 34)) w3.heap.size 0 0 0 := Blk.new _ _ _
  have L4 : LedAt (w3.alloc (.cells #[.int .i64 0, .int .i64 0, .int .i64 0] 34)) g y := Blk.alloc l3 _
  have B4 : Below w.heap.size w (w3.alloc (.cells #[.int .i64 0, .int .i64 0, .int .i64 0] 34)) := B3.alloc B3.size _
  have k7 : q7 ∉ [r, b] := by simp only [List.mem_cons, List.not_mem_nil, or_false, not_or]; exact ⟨Blk.ne_ F3 R3 (by decide), Blk.ne_ F3 M3.blk (by decide)⟩
  have k6 : q6 ∉ [r, b] := by simp only [List.mem_cons, List.not_mem_nil, or_false, not_or]; exact ⟨Blk.ne_ I3 R3 (by decide), Blk.ne_ I3 M3.blk (by decide)⟩
  have kg : g ∉ [r, b] := by simp only [List.mem_cons, List.not_mem_nil, or_false, not_or]; exact ⟨Blk.ne_ l3 R3 (by decide), Blk.ne_ l3 M3.blk (by decide)⟩
  have kq : w3.heap.size ∉ [r, b] := by simp; omega
  go_wp2_with (go_at_call 40; refine (rasImage_yes R4 M4).mono ?_; rintro e w5 ⟨rfl, r5, m5, d5, t5⟩)
  have I6 : IB (w5.alloc (.cells #[.int .i64 (W : Int), .int .i64 (H : Int), .slice (some ⟨d, 0, none⟩) l.length l.length] 32)) q6 0 0 none 0 0 := Blk.alloc (Blk.turn I4 t5 k6) _
  have F6 : FB (w5.alloc (.cells #[.int .i64 (W : Int), .int .i64 (H : Int), .slice (some ⟨d, 0, none⟩) l.length l.length] 32)) q7 0 0 0 := Blk.alloc (Blk.turn F4 t5 k7) _
  have G6 : FB (w5.alloc (.cells #[.int .i64 (W : Int), .int .i64 (H : Int), .slice (some ⟨d, 0, none⟩) l.length l.length] 32)) w3.heap.size 0 0 0 := Blk.alloc (Blk.turn G4 t5 kq) _
  have J6 : IB (w5.alloc (.cells #[.int .i64 (W : Int), .int .i64 (H : Int), .slice (some ⟨d, 0, none⟩) l.length l.length] 32)) w5.heap.size (W : Int) (H : Int) (some ⟨d, 0, none⟩) l.length l.length := Blk.new _ _ _
  have L6 : LedAt (w5.alloc (.cells #[.int .i64 (W : Int), .int .i64 (H : Int), .slice (some ⟨d, 0, none⟩) l.length l.length] 32)) g y := Blk.alloc (Blk.turn L4 t5 kg) _
  have D6 : Blk (w5.alloc (.cells #[.int .i64 (W : Int), .int .i64 (H : Int), .slice (some ⟨d, 0, none⟩) l.length l.length] 32)) d 5 (C8 l).toArray := Blk.alloc d5 _
  have B5 := Turn.belowNext B4 t5 (by simp; omega) B4.size
  have B6 : Below w.heap.size w (w5.alloc (.cells #[.int .i64 (W : Int), .int .i64 (H : Int), .slice (some ⟨d, 0, none⟩) l.length l.length] 32)) := B5.alloc B5.size _
  have hz5 := t5.size
  have hz5' : w3.heap.size + 1 ≤ w5.heap.size := by simpa using hz5
  have p1 : q6 ≠ w5.heap.size := by omega
  have p2 : q7 ≠ w5.heap.size := by omega
  have p3 : q6 ≠ w3.heap.size := by omega
  have p4 : q7 ≠ w3.heap.size := by omega
  have p5 := p1.symm
  have p6 := p2.symm
  have p7 := p3.symm
  have p8 := p4.symm
  have h76 := h67.symm
  generalize w5.alloc (.cells #[.int .i64 (W : Int), .int .i64 (H : Int), .slice (some ⟨d, 0, none⟩) l.length l.length] 32) = w6 at I6 F6 G6 J6 L6 D6 B6 ⊢
  generalize w5.heap.size = qi at J6 p1 p2 p5 p6 ⊢
  generalize w3.heap.size = qf at G6 p3 p4 p7 p8 ⊢
  obtain ⟨c0, c1, c2, z0, z1, z2, fl⟩ := IB.all I6
  obtain ⟨d0, d1, d2, y0, y1, y2, gl⟩ := FB.all F6
  obtain ⟨e0, e1, e2, x0', x1, x2, hl⟩ := FB.all G6
  obtain ⟨f0, f1, f2, v0, v1, v2, il⟩ := IB.all J6
  have HL := Lib.hid L6
  have HB := Lib.hid B6
  have HD6 := Lib.hid D6
  have hg6 : g ≠ q6 := Blk.ne_ L6 I6 (by decide)
  have hg7 : g ≠ q7 := Blk.ne_ L6 F6 (by decide)
  have hd6 : d ≠ q6 := Blk.ne_ D6 I6 (by decide)
  have hd7 : d ≠ q7 := Blk.ne_ D6 F6 (by decide)
  clear I3 F3 l3 B3 hs3 I4 F4 G4 L4 B4 R3 M3 R4 M4 r5 m5 d5 t5 I6 F6 G6 J6 L6 B6 D6 B5 hz5 hz5' k6 k7 kg kq
  go_region
  all_goals go_wp2_with fail
  all_goals exact bodyPost_ret (v := .tuple #[.agg #[.int .i64 (W : Int), .int .i64 (H : Int), .slice (some ⟨d, 0, none⟩) l.length l.length], .agg #[.int .i64 0, .int .i64 0, .int .i64 0], .pointer (some ⟨g, 0, none⟩)]) (by simp [results, Tryz.results21, go_sem, c0, c1, c2, d0, d1, d2, h67, h76]) rfl ⟨g, y, (Blk.st3 (Blk.st3 HL.out hg6) hg7).drew, HY.out, hgw, (below_set3 (below_set3 HB.out hs6) hs7).drew, .inr ⟨W, H, l, d, HR.out, rfl, BytesAt.of_blk (Blk.st3 (Blk.st3 HD6.out hd6) hd7).drew⟩⟩
end Go.Proofs.YtgmgcfjllijhgaaGreat
namespace Go.Proofs.YtgmgcfjllijhgaaGreat
open Go.RowKit
set_option linter.unusedVariables false
set_option linter.unusedSimpArgs false

def refC (W H : Int) (q n c : Nat) (o : Bool) : Array Value := #[.int .i64 W, .int .i64 H, .slice (some ⟨q, 0, none⟩) n c, .bool o]
section
variable {w : World} {k q n c : Nat} {W H : Int} {o : Bool}
end
theorem QAt.below' {w w' : World} {b off : Nat} {C : List Qc} (h : QAt w b off C) (hb : Below w.heap.size w w') : QAt w' b off C := fun i q hi => by
 obtain ⟨h0, h1, h2, h3⟩ := h i q hi
 have hl := World.block_lt_of_cell? w _ h0
 exact ⟨(hb.cell (p := ⟨b, off + i * 4, none⟩) hl).trans h0, (hb.cell (p := ⟨b, off + i * 4 + 1, none⟩) hl).trans h1, (hb.cell (p := ⟨b, off + i * 4 + 2, none⟩) hl).trans h2, (hb.cell (p := ⟨b, off + i * 4 + 3, none⟩) hl).trans h3⟩
def q0 : Qc := ⟨0, 0, 0, 0⟩
theorem prod3_in {m s p : Nat} (h : m * s = p) (hp : p ≤ 4294967296) : IntKind.i64.wrap ((m : Int) * (s : Int)) = (p : Int) := by
 have e : (m : Int) * (s : Int) = (p : Int) := by rw [← h]; exact (Int.natCast_mul m s).symm
 rw [e]
 exact IntWalk.i64_in _ (by omega)
end Go.Proofs.YtgmgcfjllijhgaaGreat
namespace Go.Proofs.YtgmgcfjllijhgaaGreat
open Go.RowKit
set_option linter.unusedVariables false
set_option linter.unusedSimpArgs false

end Go.Proofs.YtgmgcfjllijhgaaGreat
namespace Go.Proofs.YtgmgcfjllijhgaaGreat
open Go.RowKit
set_option linter.unusedVariables false
set_option linter.unusedSimpArgs false

theorem QAt.set {w : World} {g i : Nat} {cs : Array Value} {L : List Qc} {q : Qc} (hb : Blk w g 59 cs) (h : QAt w g 0 L) (hi : i < L.length) (hsz : i * 4 + 4 ≤ cs.size) :
  QAt ((((w.setCell ⟨g, i * 4, none⟩ (.int .u8 (q.r.toNat : Int))).setCell ⟨g, i * 4 + 1, none⟩ (.int .u8 (q.g.toNat : Int))).setCell ⟨g, i * 4 + 2, none⟩ (.int .u8 (q.b.toNat : Int))).setCell ⟨g, i * 4 + 3, none⟩ (.int .u8 (q.a.toNat : Int))) g 0 (L.set i q) := by
 have hb4 := (((hb.set_ (i * 4) (.int .u8 (q.r.toNat : Int))).set_ (i * 4 + 1) (.int .u8 (q.g.toNat : Int))).set_ (i * 4 + 2) (.int .u8 (q.b.toNat : Int))).set_ (i * 4 + 3) (.int .u8 (q.a.toNat : Int))
 intro j q' hj
 have hjl : j < L.length := by have := (List.getElem?_eq_some_iff.1 hj).1; simpa using this
 rw [Nat.zero_add]
 by_cases hji : j = i
 ·subst hji
  have hq : q' = q := by
   rw [List.getElem?_set_self hjl] at hj
   exact (Option.some.inj hj).symm
  subst hq
  refine ⟨(Blk.cell hb4 _).trans ?_, (Blk.cell hb4 _).trans ?_, (Blk.cell hb4 _).trans ?_, (Blk.cell hb4 _).trans ?_⟩
  ·rw [Array.getElem?_setIfInBounds_ne (by omega), Array.getElem?_setIfInBounds_ne (by omega), Array.getElem?_setIfInBounds_ne (by omega), Array.getElem?_setIfInBounds_self_of_lt (by omega)]
  ·rw [Array.getElem?_setIfInBounds_ne (by omega), Array.getElem?_setIfInBounds_ne (by omega), Array.getElem?_setIfInBounds_self_of_lt (by rw [Array.size_setIfInBounds]; omega)]
  ·rw [Array.getElem?_setIfInBounds_ne (by omega), Array.getElem?_setIfInBounds_self_of_lt (by simp only [Array.size_setIfInBounds]; omega)]
  ·rw [Array.getElem?_setIfInBounds_self_of_lt (by simp only [Array.size_setIfInBounds]; omega)]
 ·rw [List.getElem?_set_ne (Ne.symm hji)] at hj
  have hh := h j q' hj
  rw [Nat.zero_add] at hh
  have key : ∀ k, k < 4 → (((((cs.setIfInBounds (i * 4) (.int .u8 (q.r.toNat : Int))).setIfInBounds (i * 4 + 1) (.int .u8 (q.g.toNat : Int))).setIfInBounds (i * 4 + 2) (.int .u8 (q.b.toNat : Int))).setIfInBounds (i * 4 + 3) (.int .u8 (q.a.toNat : Int))))[j * 4 + k]? = cs[j * 4 + k]? := fun k hk => by
   rw [Array.getElem?_setIfInBounds_ne (by omega), Array.getElem?_setIfInBounds_ne (by omega), Array.getElem?_setIfInBounds_ne (by omega), Array.getElem?_setIfInBounds_ne (by omega)]
  refine ⟨(Blk.cell hb4 _).trans ((key 0 (by omega)).trans ((Blk.cell hb _).symm.trans hh.1)), (Blk.cell hb4 _).trans ((key 1 (by omega)).trans ((Blk.cell hb _).symm.trans hh.2.1)), (Blk.cell hb4 _).trans ((key 2 (by omega)).trans ((Blk.cell hb _).symm.trans hh.2.2.1)), (Blk.cell hb4 _).trans ((key 3 (by omega)).trans ((Blk.cell hb _).symm.trans hh.2.2.2))⟩
/-- the block of an owned row -/
theorem OwnsQ.blk {w : World} {base g n c : Nat} {L : List Qc} (h : OwnsQ w base (.slice (some ⟨g, 0, none⟩) n c) L) : base ≤ g ∧ n = L.length ∧ ∃ cs, Blk w g 59 cs ∧ L.length * 4 ≤ cs.size := by
 rcases h.2 with ⟨e, _⟩ | ⟨g', cap, cur, e, hb, hg, hc, hm, hs, ht⟩
 ·cases e
 ·simp only [Value.slice.injEq, Option.some.injEq, Addr.mk.injEq] at e
  obtain ⟨⟨rfl, _⟩, rfl, rfl⟩ := e
  exact ⟨hb, rfl, cur, hg, by rw [hs]; exact Nat.mul_le_mul hc (Nat.le_refl 4)⟩
theorem QAt.far {w : World} {g k i : Nat} {u : Value} {L : List Qc} (h : QAt w g 0 L) (hk : g ≠ k) : QAt (w.setCell ⟨k, i, none⟩ u) g 0 L := fun j q hj => by
 obtain ⟨h0, h1, h2, h3⟩ := h j q hj
 have e : ∀ o, (w.setCell ⟨k, i, none⟩ u).cell? ⟨g, o, none⟩ = w.cell? ⟨g, o, none⟩ := fun o => World.cell?_of_block (Below.heap_setCell w ⟨k, i, none⟩ u g hk)
 exact ⟨(e _).trans h0, (e _).trans h1, (e _).trans h2, (e _).trans h3⟩
end Go.Proofs.YtgmgcfjllijhgaaGreat
