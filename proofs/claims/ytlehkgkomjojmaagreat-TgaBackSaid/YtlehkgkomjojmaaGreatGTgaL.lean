/- tgarle: all pixels. -/
import Derived.Test.YtlehkgkomjojmaaGreatGTgaK
import Derived.Test.YtlehkgkomjojmaaGreatGTgaA
namespace Go.Proofs.YtlehkgkomjojmaaGreat
open Go.RowKit
set_option linter.unusedVariables false
set_option linter.unusedSimpArgs false

set_option maxRecDepth 100000 in
set_option maxHeartbeats 4000000 in
theorem tgaStepC {w : World} {p g x r b d q9 : Nat} {s : ByteArray} {h : TgaHd} {lv : Value} {M : List Qc} {a : Nat} {L : List Qc} {y : Led} (hh : h.Ok) (hsm : s.size ≤ 1099511627776) (I0 : TX w w p g x r b d s h lv M a L.length L y) (hr : y.reason = 0) (hn : L.length < h.W * h.H) (hq : Blk w q9 249 #[.pointer (some ⟨x, 0, none⟩)]) :
    Calls Tryz.prog 178 #[.pointer (some ⟨q9, 0, none⟩)] w fun e w' => TNextPost w w' p g x r b d s h lv M (fun l => l = L.length + 1) (fun z k => tgaNext s h M z 1 a L k) L y e := by
  have I1 := I0.alloc (.cells #[.int .i64 0, .int .i64 0, .int .i64 0] 34)
  have F1 : FB (w.alloc (.cells #[.int .i64 0, .int .i64 0, .int .i64 0] 34)) w.heap.size 0 0 0 := Blk.new _ _ _
  have c9 : (w.alloc (.cells #[.int .i64 0, .int .i64 0, .int .i64 0] 34)).cell? ⟨q9, 0, none⟩ = some (.pointer (some ⟨x, 0, none⟩)) := Blk.cell (Blk.alloc hq _) 0
  have HNX := Lib.hid (tgaNextC (n := 1) hh hsm I1.from_ hr (Nat.le_refl _) (by omega))
  have HI := Lib.hid (And.intro I1 F1)
  clear I0 I1 F1 hh hsm hr hn hq
  go_enter Tryz.func178, Tryz.ntmps178
  go_wp2_with (go_at_call 179; refine HNX.out.mono ?_; rintro e w5 ⟨y5, L5, a5, kk, ff, aa, rfl, I5, b5, hor⟩; have J5 := I5.to_ HI.out.1.T; have F5 : FB w5 w.heap.size 0 0 0 := FB.turn HI.out.2 I5.T (by simp only [List.mem_cons, List.not_mem_nil, or_false, not_or]; exact ⟨Blk.ne_ HI.out.2 HI.out.1.S (by decide), Blk.ne_ HI.out.2 HI.out.1.G (by decide), Blk.ne_ HI.out.2 HI.out.1.X (by decide), Blk.ne_ HI.out.2 HI.out.1.D.row (by decide)⟩); obtain ⟨f0, f1, f2', z0, z1, z2, fl⟩ := FB.all F5)
  exact bodyPost_ret (v := .agg #[.int .i64 (kk : Int), .int .i64 (ff : Int), .int .i64 (aa : Int)]) (by simp [results, Tryz.results178, go_sem, f0, f1, f2']) rfl ⟨y5, L5, a5, kk, ff, aa, rfl, J5.st3 F5 (Nat.le_refl _), b5, hor⟩
theorem tgaPk_done {s : ByteArray} {h : TgaHd} {M : List Qc} {z N f a : Nat} {L : List Qc} {k : List Qc → Dec} (hl : N ≤ L.length) : tgaPk s h M z N f a L k = k L := by
  cases f with
  | zero => rfl
  | succ f => show (if N ≤ L.length then _ else _) = _; rw [if_pos hl]
/-- what the reading of pixels leaves -/
def TPxPost (w w' : World) (p g r b d : Nat) (s : ByteArray) (h : TgaHd) (lv : Value) (M : List Qc) (a : Nat) (y : Led) (e : Ending) : Prop :=
  ∃ (y' : Led) (L' : List Qc) (a' : Nat), LedAt w' g y' ∧ y'.Ok ∧ y'.bytes = y.bytes ∧ Turn [p, g, d] w w' ∧ SrcAt w' p g s 0 s.size a' ∧ RasAt w' r g b (h.W : Int) (h.H : Int) true ∧ BufAt w' b g d (flat (tgaPerm h L')) ∧ TPalX w' g h lv M d ∧
    ((∃ kk aa : Nat, kk ≠ 0 ∧ e = .returned (tFlt kk aa) ∧ ∀ Z m, (tgaPixels s h M Z m a).run y = ((y'.give (Z : Int)).1, .bad kk aa)) ∨
     (e = .returned tFlt0 ∧ y'.reason = 0 ∧ L'.length = h.W * h.H ∧ ∀ Z m, (tgaPixels s h M Z m a).run y = (tgaEnd h m L').run y'))
theorem TX.px {w w' : World} {p g x r b d : Nat} {s : ByteArray} {h : TgaHd} {lv : Value} {M : List Qc} {a k : Nat} {L : List Qc} {y : Led} (I : TX w w' p g x r b d s h lv M a k L y) (hx : w.heap.size ≤ x) : Turn [p, g, d] w w' :=
  ⟨I.T.os, I.T.tape, I.T.output, I.T.size, fun i hi hn => I.T.block i hi (by simp only [List.mem_cons, List.not_mem_nil, or_false, not_or] at hn ⊢; exact ⟨hn.1, hn.2.1, by omega, hn.2.2⟩)⟩
set_option maxRecDepth 100000 in
set_option maxHeartbeats 4000000 in
theorem tgaRead_packed {w : World} {p g r b d N : Nat} {s : ByteArray} {h : TgaHd} {la : Option Addr} {M : List Qc} {a : Nat} {y : Led} (hh : h.Ok) (hpk : TgaPacked h.typ) (hsm : s.size ≤ 1099511627776) (hN : h.W * h.H = N) (ha : a ≤ s.size) (S0 : SrcAt w p g s 0 s.size a) (G0 : LedAt w g y) (R0 : RasAt w r g b (h.W : Int) (h.H : Int) true) (D0 : BufAt w b g d (flat (tgaPerm h []))) (P0 : TPalX w g h (.pointer la) M d) (ok : y.Ok) (hr : y.reason = 0) :
    Calls Tryz.prog 122 #[.pointer (some ⟨p, 0, none⟩), tHdV h, (.pointer la), .pointer (some ⟨r, 0, none⟩)] w fun e w' => TPxPost w w' p g r b d s h (.pointer la) M a y e := by
  have hmf : ∀ (fn : Fn) (first cap : Array Value) (w : World), (Instr.makeFunc fn first cap).run Tryz.prog w = .ok (.func fn first cap) w := fun _ _ _ _ => rfl
  have u1 : Below w.heap.size w ((((w.alloc (.cells #[.int .i64 (h.name : Int), .bool h.map, .int .i64 (h.typ : Int), .int .i64 (h.first : Int), .int .i64 (h.count : Int), .int .i64 (h.entry : Int), .int .i64 (h.W : Int), .int .i64 (h.H : Int), .int .i64 (h.depth : Int), .int .i64 (h.alpha : Int), .bool h.left, .bool h.top] 121)).alloc (.cells #[.int .i64 0, .int .i64 0, .int .i64 0] 34)).alloc (.cells #[.pointer (some ⟨p, 0, none⟩), .int .i64 (h.name : Int), .bool h.map, .int .i64 (h.typ : Int), .int .i64 (h.first : Int), .int .i64 (h.count : Int), .int .i64 (h.entry : Int), .int .i64 (h.W : Int), .int .i64 (h.H : Int), .int .i64 (h.depth : Int), .int .i64 (h.alpha : Int), .bool h.left, .bool h.top, (.pointer la), .pointer (some ⟨r, 0, none⟩), .int .i64 0] 251)).alloc (.cells #[.pointer (some ⟨w.heap.size + 1 + 1, 0, none⟩)] 249)) := ((((Below.refl _ _).alloc (Nat.le_refl _) _).alloc (by simp) _).alloc (by simp; omega) _).alloc (by simp; omega) _
  have S1 := Blk.below S0 u1 (Blk.lt S0)
  have G1 := Blk.below G0 u1 (Blk.lt G0)
  have R1 := Blk.below R0 u1 (Blk.lt R0)
  have D1 : BufAt ((((w.alloc (.cells #[.int .i64 (h.name : Int), .bool h.map, .int .i64 (h.typ : Int), .int .i64 (h.first : Int), .int .i64 (h.count : Int), .int .i64 (h.entry : Int), .int .i64 (h.W : Int), .int .i64 (h.H : Int), .int .i64 (h.depth : Int), .int .i64 (h.alpha : Int), .bool h.left, .bool h.top] 121)).alloc (.cells #[.int .i64 0, .int .i64 0, .int .i64 0] 34)).alloc (.cells #[.pointer (some ⟨p, 0, none⟩), .int .i64 (h.name : Int), .bool h.map, .int .i64 (h.typ : Int), .int .i64 (h.first : Int), .int .i64 (h.count : Int), .int .i64 (h.entry : Int), .int .i64 (h.W : Int), .int .i64 (h.H : Int), .int .i64 (h.depth : Int), .int .i64 (h.alpha : Int), .bool h.left, .bool h.top, (.pointer la), .pointer (some ⟨r, 0, none⟩), .int .i64 0] 251)).alloc (.cells #[.pointer (some ⟨w.heap.size + 1 + 1, 0, none⟩)] 249)) b g d (flat (tgaPerm h [])) := ⟨Blk.below D0.blk u1 (Blk.lt D0.blk), Blk.below D0.row u1 (Blk.lt D0.row)⟩
  have P1 := P0.turn (Turn.of_below (S := []) u1) (by simp)
  have H1 : TH ((((w.alloc (.cells #[.int .i64 (h.name : Int), .bool h.map, .int .i64 (h.typ : Int), .int .i64 (h.first : Int), .int .i64 (h.count : Int), .int .i64 (h.entry : Int), .int .i64 (h.W : Int), .int .i64 (h.H : Int), .int .i64 (h.depth : Int), .int .i64 (h.alpha : Int), .bool h.left, .bool h.top] 121)).alloc (.cells #[.int .i64 0, .int .i64 0, .int .i64 0] 34)).alloc (.cells #[.pointer (some ⟨p, 0, none⟩), .int .i64 (h.name : Int), .bool h.map, .int .i64 (h.typ : Int), .int .i64 (h.first : Int), .int .i64 (h.count : Int), .int .i64 (h.entry : Int), .int .i64 (h.W : Int), .int .i64 (h.H : Int), .int .i64 (h.depth : Int), .int .i64 (h.alpha : Int), .bool h.left, .bool h.top, (.pointer la), .pointer (some ⟨r, 0, none⟩), .int .i64 0] 251)).alloc (.cells #[.pointer (some ⟨w.heap.size + 1 + 1, 0, none⟩)] 249)) w.heap.size h := Blk.alloc (Blk.alloc (Blk.alloc (Blk.new _ _ _) _) _) _
  have F1 : FB ((((w.alloc (.cells #[.int .i64 (h.name : Int), .bool h.map, .int .i64 (h.typ : Int), .int .i64 (h.first : Int), .int .i64 (h.count : Int), .int .i64 (h.entry : Int), .int .i64 (h.W : Int), .int .i64 (h.H : Int), .int .i64 (h.depth : Int), .int .i64 (h.alpha : Int), .bool h.left, .bool h.top] 121)).alloc (.cells #[.int .i64 0, .int .i64 0, .int .i64 0] 34)).alloc (.cells #[.pointer (some ⟨p, 0, none⟩), .int .i64 (h.name : Int), .bool h.map, .int .i64 (h.typ : Int), .int .i64 (h.first : Int), .int .i64 (h.count : Int), .int .i64 (h.entry : Int), .int .i64 (h.W : Int), .int .i64 (h.H : Int), .int .i64 (h.depth : Int), .int .i64 (h.alpha : Int), .bool h.left, .bool h.top, (.pointer la), .pointer (some ⟨r, 0, none⟩), .int .i64 0] 251)).alloc (.cells #[.pointer (some ⟨w.heap.size + 1 + 1, 0, none⟩)] 249)) (w.heap.size + 1) 0 0 0 := Blk.alloc (Blk.alloc (Blk.new_at _ _ _ (by simp)) _) _
  have X1 : XF ((((w.alloc (.cells #[.int .i64 (h.name : Int), .bool h.map, .int .i64 (h.typ : Int), .int .i64 (h.first : Int), .int .i64 (h.count : Int), .int .i64 (h.entry : Int), .int .i64 (h.W : Int), .int .i64 (h.H : Int), .int .i64 (h.depth : Int), .int .i64 (h.alpha : Int), .bool h.left, .bool h.top] 121)).alloc (.cells #[.int .i64 0, .int .i64 0, .int .i64 0] 34)).alloc (.cells #[.pointer (some ⟨p, 0, none⟩), .int .i64 (h.name : Int), .bool h.map, .int .i64 (h.typ : Int), .int .i64 (h.first : Int), .int .i64 (h.count : Int), .int .i64 (h.entry : Int), .int .i64 (h.W : Int), .int .i64 (h.H : Int), .int .i64 (h.depth : Int), .int .i64 (h.alpha : Int), .bool h.left, .bool h.top, (.pointer la), .pointer (some ⟨r, 0, none⟩), .int .i64 0] 251)).alloc (.cells #[.pointer (some ⟨w.heap.size + 1 + 1, 0, none⟩)] 249)) (w.heap.size + 1 + 1) p h (.pointer la) r 0 := Blk.alloc ((Blk.new_at _ _ _ (by simp)).eq_ rfl) _
  have Q1 : Blk ((((w.alloc (.cells #[.int .i64 (h.name : Int), .bool h.map, .int .i64 (h.typ : Int), .int .i64 (h.first : Int), .int .i64 (h.count : Int), .int .i64 (h.entry : Int), .int .i64 (h.W : Int), .int .i64 (h.H : Int), .int .i64 (h.depth : Int), .int .i64 (h.alpha : Int), .bool h.left, .bool h.top] 121)).alloc (.cells #[.int .i64 0, .int .i64 0, .int .i64 0] 34)).alloc (.cells #[.pointer (some ⟨p, 0, none⟩), .int .i64 (h.name : Int), .bool h.map, .int .i64 (h.typ : Int), .int .i64 (h.first : Int), .int .i64 (h.count : Int), .int .i64 (h.entry : Int), .int .i64 (h.W : Int), .int .i64 (h.H : Int), .int .i64 (h.depth : Int), .int .i64 (h.alpha : Int), .bool h.left, .bool h.top, (.pointer la), .pointer (some ⟨r, 0, none⟩), .int .i64 0] 251)).alloc (.cells #[.pointer (some ⟨w.heap.size + 1 + 1, 0, none⟩)] 249)) (w.heap.size + 1 + 1 + 1) 249 #[.pointer (some ⟨w.heap.size + 1 + 1, 0, none⟩)] := Blk.new_at _ _ _ (by simp)
  have I1 : TX w ((((w.alloc (.cells #[.int .i64 (h.name : Int), .bool h.map, .int .i64 (h.typ : Int), .int .i64 (h.first : Int), .int .i64 (h.count : Int), .int .i64 (h.entry : Int), .int .i64 (h.W : Int), .int .i64 (h.H : Int), .int .i64 (h.depth : Int), .int .i64 (h.alpha : Int), .bool h.left, .bool h.top] 121)).alloc (.cells #[.int .i64 0, .int .i64 0, .int .i64 0] 34)).alloc (.cells #[.pointer (some ⟨p, 0, none⟩), .int .i64 (h.name : Int), .bool h.map, .int .i64 (h.typ : Int), .int .i64 (h.first : Int), .int .i64 (h.count : Int), .int .i64 (h.entry : Int), .int .i64 (h.W : Int), .int .i64 (h.H : Int), .int .i64 (h.depth : Int), .int .i64 (h.alpha : Int), .bool h.left, .bool h.top, (.pointer la), .pointer (some ⟨r, 0, none⟩), .int .i64 0] 251)).alloc (.cells #[.pointer (some ⟨w.heap.size + 1 + 1, 0, none⟩)] 249)) p g (w.heap.size + 1 + 1) r b d s h (.pointer la) M a ([] : List Qc).length [] y := ⟨S1, G1, X1, R1, D1, P1, Turn.of_below u1, ok, ha, Nat.zero_le _⟩
  have hfl : w.heap.size ≤ w.heap.size + 1 := by omega
  have hxl : w.heap.size ≤ w.heap.size + 1 + 1 := by omega
  have hP : N ≤ 268435456 := by rw [← hN]; exact Nat.mul_le_mul hh.w2 hh.h2
  have HPK := Lib.hid (fun w => tgaPackedC h.typ w)
  rw [decide_eq_true hpk] at HPK
  have HH := Lib.hid (And.intro hh (And.intro hsm (And.intro hN hpk)))
  have HR := Lib.hid hr
  clear S1 G1 R1 D1 P1 X1 S0 G0 R0 D0 P0 u1 ok hr hh hsm hN hpk
  unfold tHdV
  go_enter Tryz.func122, Tryz.ntmps122
  go_upto_region 3 with fail
  generalize ((((w.alloc (.cells #[.int .i64 (h.name : Int), .bool h.map, .int .i64 (h.typ : Int), .int .i64 (h.first : Int), .int .i64 (h.count : Int), .int .i64 (h.entry : Int), .int .i64 (h.W : Int), .int .i64 (h.H : Int), .int .i64 (h.depth : Int), .int .i64 (h.alpha : Int), .bool h.left, .bool h.top] 121)).alloc (.cells #[.int .i64 0, .int .i64 0, .int .i64 0] 34)).alloc (.cells #[.pointer (some ⟨p, 0, none⟩), .int .i64 (h.name : Int), .bool h.map, .int .i64 (h.typ : Int), .int .i64 (h.first : Int), .int .i64 (h.count : Int), .int .i64 (h.entry : Int), .int .i64 (h.W : Int), .int .i64 (h.H : Int), .int .i64 (h.depth : Int), .int .i64 (h.alpha : Int), .bool h.left, .bool h.top, (.pointer la), .pointer (some ⟨r, 0, none⟩), .int .i64 0] 251)).alloc (.cells #[.pointer (some ⟨w.heap.size + 1 + 1, 0, none⟩)] 249)) = w1 at I1 H1 F1 Q1 ⊢
  generalize w.heap.size + 1 + 1 + 1 = q9 at Q1 ⊢
  generalize w.heap.size + 1 + 1 = x at I1 Q1 hxl ⊢
  generalize w.heap.size + 1 = qf at F1 hfl ⊢
  have h2 : w1.cell? ⟨w.heap.size, 2, none⟩ = some (.int .i64 (h.typ : Int)) := Blk.cell H1 2
  have k9 : w1.cell? ⟨q9, 0, none⟩ = some (.pointer (some ⟨x, 0, none⟩)) := Blk.cell Q1 0
  have HI : Hid (TX w w1 p g x r b d s h (.pointer la) M a ([] : List Qc).length [] y ∧ FB w1 qf 0 0 0 ∧ Blk w1 q9 249 #[.pointer (some ⟨x, 0, none⟩)]) := Lib.hid ⟨I1, F1, Q1⟩
  clear I1 F1 Q1 H1
  go_wp2_with (go_at_call 165; refine (HPK.out _).mono ?_; rintro e w3 ⟨rfl, rfl⟩)
  clear h2 k9 HPK
  go_loopg [11] N (fun gh v11 wr => ∃ (f gk a' : Nat) (y' : Led) (L' : List Qc), gk = gh ∧ Hid (L'.length + gk = N ∧ N ≤ L'.length + f) ∧ Hid (TX w wr p g x r b d s h (.pointer la) M a' L'.length L' y' ∧ FB wr qf 0 0 0 ∧ Blk wr q9 249 #[.pointer (some ⟨x, 0, none⟩)] ∧ y'.reason = 0 ∧ y'.bytes = y.bytes ∧ ∀ Z m, (tgaPixels s h M Z m a).run y = (tgaPk s h M Z N f a' L' (tgaEnd h m)).run y'))
  case atStart => exact ⟨N, N, a, y, [], rfl, Lib.hid ⟨by simp, by simp⟩, Lib.hid ⟨HI.out.1, HI.out.2.1, HI.out.2.2, HR.out, rfl, fun Z m => by unfold tgaPixels; rw [if_pos HH.out.2.2.2, HH.out.2.2.1]⟩⟩
  case round =>
    obtain ⟨f, gk, a', y', L', rfl, HL, HX⟩ := hrel
    clear HI
    have k9 : wr.cell? ⟨q9, 0, none⟩ = some (.pointer (some ⟨x, 0, none⟩)) := Blk.cell HX.out.2.2.1 0
    have HLF := Lib.hid (tgaLeftC (n := gk) (N := N) HX.out.1.X HH.out.2.2.1 HL.out.1 hP)
    by_cases hg : 0 < gk
    · have hgI : (0 : Int) < (gk : Int) := by omega
      have HG := Lib.hid hg
      have HNX := Lib.hid (tgaPacketC (N := N) HH.out.1 HH.out.2.1 HH.out.2.2.1 HX.out.1.drew.from_ HX.out.2.2.2.1 (by have := HL.out.1; omega))
      clear hg
      go_upto_region 7 with (first
        | (go_at_call 177; refine HNX.out.mono ?_; rintro e w5 ⟨y5, L5, a5, kk, ff, aa, rfl, I5, b5, hor⟩)
        | (go_at_call 180; refine HLF.out.mono ?_; rintro e w3 ⟨rfl, rfl⟩))
      have F4 : FB w5 qf 0 0 0 := FB.turn (Blk.drew HX.out.2.1) I5.T (by simp only [List.mem_cons, List.not_mem_nil, or_false, not_or]; exact ⟨Blk.ne_ HX.out.2.1 HX.out.1.S (by decide), Blk.ne_ HX.out.2.1 HX.out.1.G (by decide), Blk.ne_ HX.out.2.1 HX.out.1.X (by decide), Blk.ne_ HX.out.2.1 HX.out.1.D.row (by decide)⟩)
      have Q4 : Blk w5 q9 249 #[.pointer (some ⟨x, 0, none⟩)] := Blk.turn (Blk.drew HX.out.2.2.1) I5.T (by simp only [List.mem_cons, List.not_mem_nil, or_false, not_or]; exact ⟨Blk.ne_ HX.out.2.2.1 HX.out.1.S (by decide), Blk.ne_ HX.out.2.2.1 HX.out.1.G (by decide), Blk.ne_ HX.out.2.2.1 HX.out.1.X (by decide), Blk.ne_ HX.out.2.2.1 HX.out.1.D.row (by decide)⟩)
      have J5 := (I5.to_ HX.out.1.drew.T).alloc (.cells #[.int .i64 (kk : Int), .int .i64 (ff : Int), .int .i64 (aa : Int)] 34)
      have F5 : FB (w5.alloc (.cells #[.int .i64 (kk : Int), .int .i64 (ff : Int), .int .i64 (aa : Int)] 34)) qf 0 0 0 := Blk.alloc F4 _
      have Q5 : Blk (w5.alloc (.cells #[.int .i64 (kk : Int), .int .i64 (ff : Int), .int .i64 (aa : Int)] 34)) q9 249 #[.pointer (some ⟨x, 0, none⟩)] := Blk.alloc Q4 _
      have E5 : FB (w5.alloc (.cells #[.int .i64 (kk : Int), .int .i64 (ff : Int), .int .i64 (aa : Int)] 34)) w5.heap.size (kk : Int) (ff : Int) (aa : Int) := Blk.new _ _ _
      have hne : qf ≠ w5.heap.size := Nat.ne_of_lt (Blk.lt F4)
      generalize w5.alloc (.cells #[.int .i64 (kk : Int), .int .i64 (ff : Int), .int .i64 (aa : Int)] 34) = w6 at J5 F5 Q5 E5 ⊢
      generalize w5.heap.size = q7 at E5 hne ⊢
      have hne' := hne.symm
      obtain ⟨f0, f1, f2', z0, z1, z2, fl⟩ := FB.all F5
      obtain ⟨e0, e1, e2, ez0, ez1, ez2, el⟩ := FB.all E5
      have HJ := Lib.hid (And.intro J5 (And.intro F5 Q5))
      have HB5 := Lib.hid b5
      clear J5 F5 E5 F4 I5 b5 Q4 Q5 k9
      by_cases hk : kk = 0
      · have hkI : (kk : Int) = 0 := by omega
        rcases hor with ⟨h1, _⟩ | ⟨_, _, _, hlen, yr5, hrun⟩
        · exact absurd hk h1
        · have HRN := Lib.hid hrun
          have HLN := Lib.hid hlen
          have HYR := Lib.hid yr5
          clear hrun hlen yr5 hk
          go_wp2_with fail
          go_roundg (N - L5.length)
          case measure => have h1 := HLN.out; have h2 := HL.out.1; have h3 := HG.out; have h4 := HJ.out.1.hL; have h5 := HH.out.2.2.1; omega
          case rel =>
            refine ⟨f - 1, N - L5.length, a5, y5, L5, rfl, Lib.hid ?_, Lib.hid ⟨HJ.out.1, HJ.out.2.1, HJ.out.2.2, HYR.out, HB5.out.trans HX.out.2.2.2.2.1, fun Z m => ?_⟩⟩
            · have h1 := HLN.out; have h2 := HL.out.1; have h3 := HG.out; have h4 := HJ.out.1.hL; have h5 := HH.out.2.2.1; (have h6 := HL.out.2; exact ⟨by omega, by omega⟩)
            · rw [HX.out.2.2.2.2.2, show f = f - 1 + 1 by have h2 := HL.out.1; have h3 := HG.out; have h4 := HL.out.2; omega, tgaPk_step (by have h2 := HL.out.1; have h3 := HG.out; omega)]; exact HRN.out Z _
      · have hkI : ((kk : Int) != 0) = true := bne_iff_ne.2 (by omega)
        rcases hor with ⟨_, h2, hrun⟩ | ⟨h1, _⟩
        · have HRN := Lib.hid hrun
          have HKK := Lib.hid hk
          subst h2
          clear hrun hk
          go_wp2_with fail
          exact bodyPost_ret (v := tFlt kk aa) (by simp [results, Tryz.results122, go_sem, f0, f1, f2', e0, e1, e2, tFlt]) rfl ⟨y5, L5, a5, Blk.st3 HJ.out.1.G (Blk.ne_ HJ.out.1.G HJ.out.2.1 (by decide)), HJ.out.1.ok, HB5.out.trans HX.out.2.2.2.2.1, Turn.st3 (HJ.out.1.px hxl) (.inr hfl), (HJ.out.1.st3 HJ.out.2.1 hfl).S, (HJ.out.1.st3 HJ.out.2.1 hfl).R, (HJ.out.1.st3 HJ.out.2.1 hfl).D, (HJ.out.1.st3 HJ.out.2.1 hfl).P, .inl ⟨kk, aa, HKK.out, rfl, fun Z m => by rw [HX.out.2.2.2.2.2, show f = f - 1 + 1 by have h2 := HL.out.1; have h3 := HG.out; have h4 := HL.out.2; omega, tgaPk_step (by have h2 := HL.out.1; have h3 := HG.out; omega)]; exact HRN.out Z _⟩⟩
        · exact absurd h1 hk
    · obtain rfl : gk = 0 := by omega
      obtain ⟨f0, f1, f2', z0, z1, z2, fl⟩ := FB.all HX.out.2.1
      clear hg
      go_wp2_with (go_at_call 180; refine HLF.out.mono ?_; rintro e w3 ⟨rfl, rfl⟩)
      exact bodyPost_ret (v := tFlt0) (by simp [results, Tryz.results122, go_sem, f0, f1, f2', tFlt0]) rfl ⟨y', L', a', (HX.out.1.st3 HX.out.2.1 hfl).drew.G, HX.out.1.ok, HX.out.2.2.2.2.1, (Turn.st3 (HX.out.1.px hxl) (.inr hfl)).drew, (HX.out.1.st3 HX.out.2.1 hfl).drew.S, (HX.out.1.st3 HX.out.2.1 hfl).drew.R, (HX.out.1.st3 HX.out.2.1 hfl).drew.D, (HX.out.1.st3 HX.out.2.1 hfl).drew.P, .inr ⟨rfl, HX.out.2.2.2.1, by have h2 := HL.out.1; have h5 := HH.out.2.2.1; omega, fun Z m => by rw [HX.out.2.2.2.2.2]; rw [tgaPk_done (by have h2 := HL.out.1; omega)]⟩⟩
set_option maxRecDepth 100000 in
set_option maxHeartbeats 4000000 in
theorem tgaRead_raw {w : World} {p g r b d N : Nat} {s : ByteArray} {h : TgaHd} {la : Option Addr} {M : List Qc} {a : Nat} {y : Led} (hh : h.Ok) (hpk : ¬ TgaPacked h.typ) (hsm : s.size ≤ 1099511627776) (hN : h.W * h.H = N) (ha : a ≤ s.size) (S0 : SrcAt w p g s 0 s.size a) (G0 : LedAt w g y) (R0 : RasAt w r g b (h.W : Int) (h.H : Int) true) (D0 : BufAt w b g d (flat (tgaPerm h []))) (P0 : TPalX w g h (.pointer la) M d) (ok : y.Ok) (hr : y.reason = 0) :
    Calls Tryz.prog 122 #[.pointer (some ⟨p, 0, none⟩), tHdV h, (.pointer la), .pointer (some ⟨r, 0, none⟩)] w fun e w' => TPxPost w w' p g r b d s h (.pointer la) M a y e := by
  have hmf : ∀ (fn : Fn) (first cap : Array Value) (w : World), (Instr.makeFunc fn first cap).run Tryz.prog w = .ok (.func fn first cap) w := fun _ _ _ _ => rfl
  have u1 : Below w.heap.size w ((((w.alloc (.cells #[.int .i64 (h.name : Int), .bool h.map, .int .i64 (h.typ : Int), .int .i64 (h.first : Int), .int .i64 (h.count : Int), .int .i64 (h.entry : Int), .int .i64 (h.W : Int), .int .i64 (h.H : Int), .int .i64 (h.depth : Int), .int .i64 (h.alpha : Int), .bool h.left, .bool h.top] 121)).alloc (.cells #[.int .i64 0, .int .i64 0, .int .i64 0] 34)).alloc (.cells #[.pointer (some ⟨p, 0, none⟩), .int .i64 (h.name : Int), .bool h.map, .int .i64 (h.typ : Int), .int .i64 (h.first : Int), .int .i64 (h.count : Int), .int .i64 (h.entry : Int), .int .i64 (h.W : Int), .int .i64 (h.H : Int), .int .i64 (h.depth : Int), .int .i64 (h.alpha : Int), .bool h.left, .bool h.top, (.pointer la), .pointer (some ⟨r, 0, none⟩), .int .i64 0] 251)).alloc (.cells #[.pointer (some ⟨w.heap.size + 1 + 1, 0, none⟩)] 249)) := ((((Below.refl _ _).alloc (Nat.le_refl _) _).alloc (by simp) _).alloc (by simp; omega) _).alloc (by simp; omega) _
  have S1 := Blk.below S0 u1 (Blk.lt S0)
  have G1 := Blk.below G0 u1 (Blk.lt G0)
  have R1 := Blk.below R0 u1 (Blk.lt R0)
  have D1 : BufAt ((((w.alloc (.cells #[.int .i64 (h.name : Int), .bool h.map, .int .i64 (h.typ : Int), .int .i64 (h.first : Int), .int .i64 (h.count : Int), .int .i64 (h.entry : Int), .int .i64 (h.W : Int), .int .i64 (h.H : Int), .int .i64 (h.depth : Int), .int .i64 (h.alpha : Int), .bool h.left, .bool h.top] 121)).alloc (.cells #[.int .i64 0, .int .i64 0, .int .i64 0] 34)).alloc (.cells #[.pointer (some ⟨p, 0, none⟩), .int .i64 (h.name : Int), .bool h.map, .int .i64 (h.typ : Int), .int .i64 (h.first : Int), .int .i64 (h.count : Int), .int .i64 (h.entry : Int), .int .i64 (h.W : Int), .int .i64 (h.H : Int), .int .i64 (h.depth : Int), .int .i64 (h.alpha : Int), .bool h.left, .bool h.top, (.pointer la), .pointer (some ⟨r, 0, none⟩), .int .i64 0] 251)).alloc (.cells #[.pointer (some ⟨w.heap.size + 1 + 1, 0, none⟩)] 249)) b g d (flat (tgaPerm h [])) := ⟨Blk.below D0.blk u1 (Blk.lt D0.blk), Blk.below D0.row u1 (Blk.lt D0.row)⟩
  have P1 := P0.turn (Turn.of_below (S := []) u1) (by simp)
  have H1 : TH ((((w.alloc (.cells #[.int .i64 (h.name : Int), .bool h.map, .int .i64 (h.typ : Int), .int .i64 (h.first : Int), .int .i64 (h.count : Int), .int .i64 (h.entry : Int), .int .i64 (h.W : Int), .int .i64 (h.H : Int), .int .i64 (h.depth : Int), .int .i64 (h.alpha : Int), .bool h.left, .bool h.top] 121)).alloc (.cells #[.int .i64 0, .int .i64 0, .int .i64 0] 34)).alloc (.cells #[.pointer (some ⟨p, 0, none⟩), .int .i64 (h.name : Int), .bool h.map, .int .i64 (h.typ : Int), .int .i64 (h.first : Int), .int .i64 (h.count : Int), .int .i64 (h.entry : Int), .int .i64 (h.W : Int), .int .i64 (h.H : Int), .int .i64 (h.depth : Int), .int .i64 (h.alpha : Int), .bool h.left, .bool h.top, (.pointer la), .pointer (some ⟨r, 0, none⟩), .int .i64 0] 251)).alloc (.cells #[.pointer (some ⟨w.heap.size + 1 + 1, 0, none⟩)] 249)) w.heap.size h := Blk.alloc (Blk.alloc (Blk.alloc (Blk.new _ _ _) _) _) _
  have F1 : FB ((((w.alloc (.cells #[.int .i64 (h.name : Int), .bool h.map, .int .i64 (h.typ : Int), .int .i64 (h.first : Int), .int .i64 (h.count : Int), .int .i64 (h.entry : Int), .int .i64 (h.W : Int), .int .i64 (h.H : Int), .int .i64 (h.depth : Int), .int .i64 (h.alpha : Int), .bool h.left, .bool h.top] 121)).alloc (.cells #[.int .i64 0, .int .i64 0, .int .i64 0] 34)).alloc (.cells #[.pointer (some ⟨p, 0, none⟩), .int .i64 (h.name : Int), .bool h.map, .int .i64 (h.typ : Int), .int .i64 (h.first : Int), .int .i64 (h.count : Int), .int .i64 (h.entry : Int), .int .i64 (h.W : Int), .int .i64 (h.H : Int), .int .i64 (h.depth : Int), .int .i64 (h.alpha : Int), .bool h.left, .bool h.top, (.pointer la), .pointer (some ⟨r, 0, none⟩), .int .i64 0] 251)).alloc (.cells #[.pointer (some ⟨w.heap.size + 1 + 1, 0, none⟩)] 249)) (w.heap.size + 1) 0 0 0 := Blk.alloc (Blk.alloc (Blk.new_at _ _ _ (by simp)) _) _
  have X1 : XF ((((w.alloc (.cells #[.int .i64 (h.name : Int), .bool h.map, .int .i64 (h.typ : Int), .int .i64 (h.first : Int), .int .i64 (h.count : Int), .int .i64 (h.entry : Int), .int .i64 (h.W : Int), .int .i64 (h.H : Int), .int .i64 (h.depth : Int), .int .i64 (h.alpha : Int), .bool h.left, .bool h.top] 121)).alloc (.cells #[.int .i64 0, .int .i64 0, .int .i64 0] 34)).alloc (.cells #[.pointer (some ⟨p, 0, none⟩), .int .i64 (h.name : Int), .bool h.map, .int .i64 (h.typ : Int), .int .i64 (h.first : Int), .int .i64 (h.count : Int), .int .i64 (h.entry : Int), .int .i64 (h.W : Int), .int .i64 (h.H : Int), .int .i64 (h.depth : Int), .int .i64 (h.alpha : Int), .bool h.left, .bool h.top, (.pointer la), .pointer (some ⟨r, 0, none⟩), .int .i64 0] 251)).alloc (.cells #[.pointer (some ⟨w.heap.size + 1 + 1, 0, none⟩)] 249)) (w.heap.size + 1 + 1) p h (.pointer la) r 0 := Blk.alloc ((Blk.new_at _ _ _ (by simp)).eq_ rfl) _
  have Q1 : Blk ((((w.alloc (.cells #[.int .i64 (h.name : Int), .bool h.map, .int .i64 (h.typ : Int), .int .i64 (h.first : Int), .int .i64 (h.count : Int), .int .i64 (h.entry : Int), .int .i64 (h.W : Int), .int .i64 (h.H : Int), .int .i64 (h.depth : Int), .int .i64 (h.alpha : Int), .bool h.left, .bool h.top] 121)).alloc (.cells #[.int .i64 0, .int .i64 0, .int .i64 0] 34)).alloc (.cells #[.pointer (some ⟨p, 0, none⟩), .int .i64 (h.name : Int), .bool h.map, .int .i64 (h.typ : Int), .int .i64 (h.first : Int), .int .i64 (h.count : Int), .int .i64 (h.entry : Int), .int .i64 (h.W : Int), .int .i64 (h.H : Int), .int .i64 (h.depth : Int), .int .i64 (h.alpha : Int), .bool h.left, .bool h.top, (.pointer la), .pointer (some ⟨r, 0, none⟩), .int .i64 0] 251)).alloc (.cells #[.pointer (some ⟨w.heap.size + 1 + 1, 0, none⟩)] 249)) (w.heap.size + 1 + 1 + 1) 249 #[.pointer (some ⟨w.heap.size + 1 + 1, 0, none⟩)] := Blk.new_at _ _ _ (by simp)
  have I1 : TX w ((((w.alloc (.cells #[.int .i64 (h.name : Int), .bool h.map, .int .i64 (h.typ : Int), .int .i64 (h.first : Int), .int .i64 (h.count : Int), .int .i64 (h.entry : Int), .int .i64 (h.W : Int), .int .i64 (h.H : Int), .int .i64 (h.depth : Int), .int .i64 (h.alpha : Int), .bool h.left, .bool h.top] 121)).alloc (.cells #[.int .i64 0, .int .i64 0, .int .i64 0] 34)).alloc (.cells #[.pointer (some ⟨p, 0, none⟩), .int .i64 (h.name : Int), .bool h.map, .int .i64 (h.typ : Int), .int .i64 (h.first : Int), .int .i64 (h.count : Int), .int .i64 (h.entry : Int), .int .i64 (h.W : Int), .int .i64 (h.H : Int), .int .i64 (h.depth : Int), .int .i64 (h.alpha : Int), .bool h.left, .bool h.top, (.pointer la), .pointer (some ⟨r, 0, none⟩), .int .i64 0] 251)).alloc (.cells #[.pointer (some ⟨w.heap.size + 1 + 1, 0, none⟩)] 249)) p g (w.heap.size + 1 + 1) r b d s h (.pointer la) M a ([] : List Qc).length [] y := ⟨S1, G1, X1, R1, D1, P1, Turn.of_below u1, ok, ha, Nat.zero_le _⟩
  have hfl : w.heap.size ≤ w.heap.size + 1 := by omega
  have hxl : w.heap.size ≤ w.heap.size + 1 + 1 := by omega
  have hP : N ≤ 268435456 := by rw [← hN]; exact Nat.mul_le_mul hh.w2 hh.h2
  have HPK := Lib.hid (fun w => tgaPackedC h.typ w)
  rw [decide_eq_false hpk] at HPK
  have HH := Lib.hid (And.intro hh (And.intro hsm (And.intro hN hpk)))
  have HR := Lib.hid hr
  clear S1 G1 R1 D1 P1 X1 S0 G0 R0 D0 P0 u1 ok hr hh hsm hN hpk
  unfold tHdV
  go_enter Tryz.func122, Tryz.ntmps122
  go_upto_region 3 with fail
  generalize ((((w.alloc (.cells #[.int .i64 (h.name : Int), .bool h.map, .int .i64 (h.typ : Int), .int .i64 (h.first : Int), .int .i64 (h.count : Int), .int .i64 (h.entry : Int), .int .i64 (h.W : Int), .int .i64 (h.H : Int), .int .i64 (h.depth : Int), .int .i64 (h.alpha : Int), .bool h.left, .bool h.top] 121)).alloc (.cells #[.int .i64 0, .int .i64 0, .int .i64 0] 34)).alloc (.cells #[.pointer (some ⟨p, 0, none⟩), .int .i64 (h.name : Int), .bool h.map, .int .i64 (h.typ : Int), .int .i64 (h.first : Int), .int .i64 (h.count : Int), .int .i64 (h.entry : Int), .int .i64 (h.W : Int), .int .i64 (h.H : Int), .int .i64 (h.depth : Int), .int .i64 (h.alpha : Int), .bool h.left, .bool h.top, (.pointer la), .pointer (some ⟨r, 0, none⟩), .int .i64 0] 251)).alloc (.cells #[.pointer (some ⟨w.heap.size + 1 + 1, 0, none⟩)] 249)) = w1 at I1 H1 F1 Q1 ⊢
  generalize w.heap.size + 1 + 1 + 1 = q9 at Q1 ⊢
  generalize w.heap.size + 1 + 1 = x at I1 Q1 hxl ⊢
  generalize w.heap.size + 1 = qf at F1 hfl ⊢
  have h2 : w1.cell? ⟨w.heap.size, 2, none⟩ = some (.int .i64 (h.typ : Int)) := Blk.cell H1 2
  have k9 : w1.cell? ⟨q9, 0, none⟩ = some (.pointer (some ⟨x, 0, none⟩)) := Blk.cell Q1 0
  have HI : Hid (TX w w1 p g x r b d s h (.pointer la) M a ([] : List Qc).length [] y ∧ FB w1 qf 0 0 0 ∧ Blk w1 q9 249 #[.pointer (some ⟨x, 0, none⟩)]) := Lib.hid ⟨I1, F1, Q1⟩
  clear I1 F1 Q1 H1
  go_wp2_with (go_at_call 165; refine (HPK.out _).mono ?_; rintro e w3 ⟨rfl, rfl⟩)
  clear h2 k9 HPK
  go_loopg [11] N (fun gh v11 wr => ∃ (gk a' : Nat) (y' : Led) (L' : List Qc), gk = gh ∧ Hid (L'.length + gk = N) ∧ Hid (TX w wr p g x r b d s h (.pointer la) M a' L'.length L' y' ∧ FB wr qf 0 0 0 ∧ Blk wr q9 249 #[.pointer (some ⟨x, 0, none⟩)] ∧ y'.reason = 0 ∧ y'.bytes = y.bytes ∧ ∀ Z m, (tgaPixels s h M Z m a).run y = (tgaRaw s h M Z gk a' L' (fun _ L => tgaEnd h m L)).run y'))
  case atStart => exact ⟨N, a, y, [], rfl, Lib.hid (by simp), Lib.hid ⟨HI.out.1, HI.out.2.1, HI.out.2.2, HR.out, rfl, fun Z m => by unfold tgaPixels; rw [if_neg HH.out.2.2.2, HH.out.2.2.1]⟩⟩
  case round =>
    obtain ⟨gk, a', y', L', rfl, HL, HX⟩ := hrel
    clear HI
    have k9 : wr.cell? ⟨q9, 0, none⟩ = some (.pointer (some ⟨x, 0, none⟩)) := Blk.cell HX.out.2.2.1 0
    have HLF := Lib.hid (tgaLeftC (n := gk) (N := N) HX.out.1.X HH.out.2.2.1 HL.out hP)
    by_cases hg : 0 < gk
    · have hgI : (0 : Int) < (gk : Int) := by omega
      have HG := Lib.hid hg
      have HNX := Lib.hid (tgaStepC HH.out.1 HH.out.2.1 HX.out.1.drew.from_ HX.out.2.2.2.1 (by have := HL.out; have := HH.out.2.2.1; omega) (Blk.drew HX.out.2.2.1))
      clear hg
      go_upto_region 7 with (first
        | (go_at_call 178; refine HNX.out.mono ?_; rintro e w5 ⟨y5, L5, a5, kk, ff, aa, rfl, I5, b5, hor⟩)
        | (go_at_call 180; refine HLF.out.mono ?_; rintro e w3 ⟨rfl, rfl⟩))
      have F4 : FB w5 qf 0 0 0 := FB.turn (Blk.drew HX.out.2.1) I5.T (by simp only [List.mem_cons, List.not_mem_nil, or_false, not_or]; exact ⟨Blk.ne_ HX.out.2.1 HX.out.1.S (by decide), Blk.ne_ HX.out.2.1 HX.out.1.G (by decide), Blk.ne_ HX.out.2.1 HX.out.1.X (by decide), Blk.ne_ HX.out.2.1 HX.out.1.D.row (by decide)⟩)
      have Q4 : Blk w5 q9 249 #[.pointer (some ⟨x, 0, none⟩)] := Blk.turn (Blk.drew HX.out.2.2.1) I5.T (by simp only [List.mem_cons, List.not_mem_nil, or_false, not_or]; exact ⟨Blk.ne_ HX.out.2.2.1 HX.out.1.S (by decide), Blk.ne_ HX.out.2.2.1 HX.out.1.G (by decide), Blk.ne_ HX.out.2.2.1 HX.out.1.X (by decide), Blk.ne_ HX.out.2.2.1 HX.out.1.D.row (by decide)⟩)
      have J5 := (I5.to_ HX.out.1.drew.T).alloc (.cells #[.int .i64 (kk : Int), .int .i64 (ff : Int), .int .i64 (aa : Int)] 34)
      have F5 : FB (w5.alloc (.cells #[.int .i64 (kk : Int), .int .i64 (ff : Int), .int .i64 (aa : Int)] 34)) qf 0 0 0 := Blk.alloc F4 _
      have Q5 : Blk (w5.alloc (.cells #[.int .i64 (kk : Int), .int .i64 (ff : Int), .int .i64 (aa : Int)] 34)) q9 249 #[.pointer (some ⟨x, 0, none⟩)] := Blk.alloc Q4 _
      have E5 : FB (w5.alloc (.cells #[.int .i64 (kk : Int), .int .i64 (ff : Int), .int .i64 (aa : Int)] 34)) w5.heap.size (kk : Int) (ff : Int) (aa : Int) := Blk.new _ _ _
      have hne : qf ≠ w5.heap.size := Nat.ne_of_lt (Blk.lt F4)
      generalize w5.alloc (.cells #[.int .i64 (kk : Int), .int .i64 (ff : Int), .int .i64 (aa : Int)] 34) = w6 at J5 F5 Q5 E5 ⊢
      generalize w5.heap.size = q7 at E5 hne ⊢
      have hne' := hne.symm
      obtain ⟨f0, f1, f2', z0, z1, z2, fl⟩ := FB.all F5
      obtain ⟨e0, e1, e2, ez0, ez1, ez2, el⟩ := FB.all E5
      have HJ := Lib.hid (And.intro J5 (And.intro F5 Q5))
      have HB5 := Lib.hid b5
      clear J5 F5 E5 F4 I5 b5 Q4 Q5 k9
      by_cases hk : kk = 0
      · have hkI : (kk : Int) = 0 := by omega
        rcases hor with ⟨h1, _⟩ | ⟨_, _, _, hlen, yr5, hrun⟩
        · exact absurd hk h1
        · have HRN := Lib.hid hrun
          have HLN := Lib.hid hlen
          have HYR := Lib.hid yr5
          clear hrun hlen yr5 hk
          go_wp2_with fail
          go_roundg (N - L5.length)
          case measure => have h1 := HLN.out; have h2 := HL.out; have h3 := HG.out; have h4 := HJ.out.1.hL; have h5 := HH.out.2.2.1; omega
          case rel =>
            refine ⟨N - L5.length, a5, y5, L5, rfl, Lib.hid ?_, Lib.hid ⟨HJ.out.1, HJ.out.2.1, HJ.out.2.2, HYR.out, HB5.out.trans HX.out.2.2.2.2.1, fun Z m => ?_⟩⟩
            · have h1 := HLN.out; have h2 := HL.out; have h3 := HG.out; have h4 := HJ.out.1.hL; have h5 := HH.out.2.2.1; (omega)
            · rw [HX.out.2.2.2.2.2, show gk = N - L5.length + 1 by have h1 := HLN.out; have h2 := HL.out; have h3 := HG.out; omega]; exact HRN.out Z _
      · have hkI : ((kk : Int) != 0) = true := bne_iff_ne.2 (by omega)
        rcases hor with ⟨_, h2, hrun⟩ | ⟨h1, _⟩
        · have HRN := Lib.hid hrun
          have HKK := Lib.hid hk
          subst h2
          clear hrun hk
          go_wp2_with fail
          exact bodyPost_ret (v := tFlt kk aa) (by simp [results, Tryz.results122, go_sem, f0, f1, f2', e0, e1, e2, tFlt]) rfl ⟨y5, L5, a5, Blk.st3 HJ.out.1.G (Blk.ne_ HJ.out.1.G HJ.out.2.1 (by decide)), HJ.out.1.ok, HB5.out.trans HX.out.2.2.2.2.1, Turn.st3 (HJ.out.1.px hxl) (.inr hfl), (HJ.out.1.st3 HJ.out.2.1 hfl).S, (HJ.out.1.st3 HJ.out.2.1 hfl).R, (HJ.out.1.st3 HJ.out.2.1 hfl).D, (HJ.out.1.st3 HJ.out.2.1 hfl).P, .inl ⟨kk, aa, HKK.out, rfl, fun Z m => by rw [HX.out.2.2.2.2.2, show gk = gk - 1 + 1 by have h3 := HG.out; omega]; exact HRN.out Z _⟩⟩
        · exact absurd h1 hk
    · obtain rfl : gk = 0 := by omega
      obtain ⟨f0, f1, f2', z0, z1, z2, fl⟩ := FB.all HX.out.2.1
      clear hg
      go_wp2_with (go_at_call 180; refine HLF.out.mono ?_; rintro e w3 ⟨rfl, rfl⟩)
      exact bodyPost_ret (v := tFlt0) (by simp [results, Tryz.results122, go_sem, f0, f1, f2', tFlt0]) rfl ⟨y', L', a', (HX.out.1.st3 HX.out.2.1 hfl).drew.G, HX.out.1.ok, HX.out.2.2.2.2.1, (Turn.st3 (HX.out.1.px hxl) (.inr hfl)).drew, (HX.out.1.st3 HX.out.2.1 hfl).drew.S, (HX.out.1.st3 HX.out.2.1 hfl).drew.R, (HX.out.1.st3 HX.out.2.1 hfl).drew.D, (HX.out.1.st3 HX.out.2.1 hfl).drew.P, .inr ⟨rfl, HX.out.2.2.2.1, by have h2 := HL.out; have h5 := HH.out.2.2.1; omega, fun Z m => by rw [HX.out.2.2.2.2.2]; rfl⟩⟩
theorem tgaReadPxC {w : World} {p g r b d : Nat} {s : ByteArray} {h : TgaHd} {la : Option Addr} {M : List Qc} {a : Nat} {y : Led} (hh : h.Ok) (hsm : s.size ≤ 1099511627776) (ha : a ≤ s.size) (S0 : SrcAt w p g s 0 s.size a) (G0 : LedAt w g y) (R0 : RasAt w r g b (h.W : Int) (h.H : Int) true) (D0 : BufAt w b g d (flat (tgaPerm h []))) (P0 : TPalX w g h (.pointer la) M d) (ok : y.Ok) (hr : y.reason = 0) :
    Calls Tryz.prog 122 #[.pointer (some ⟨p, 0, none⟩), tHdV h, .pointer la, .pointer (some ⟨r, 0, none⟩)] w fun e w' => TPxPost w w' p g r b d s h (.pointer la) M a y e := by
  by_cases hp : TgaPacked h.typ
  · exact tgaRead_packed hh hp hsm rfl ha S0 G0 R0 D0 P0 ok hr
  · exact tgaRead_raw hh hp hsm rfl ha S0 G0 R0 D0 P0 ok hr
end Go.Proofs.YtlehkgkomjojmaaGreat
