/- A decoder's run: a new ledger, a source over all of a text, the raster's image. -/
import Derived.Test.YtgmgcfjllijhgaaGreatFfE
import Derived.Test.YtgmgcfjllijhgaaGreatWrB
import Derived.Test.YtgmgcfjllijhgaaGreatRas
namespace Go.Proofs.YtgmgcfjllijhgaaGreat
open Go.RowKit
set_option linter.unusedVariables false
set_option linter.unusedSimpArgs false

section
variable {w w' : World} {b : Nat} {W H W' H' : Int} {a a' : Option Addr} {n c n' c' : Nat} {S : List Nat}
theorem IB.st3 (h : IB w b W H a n c) : IB (st3 w b (.int .i64 W') (.int .i64 H') (.slice a' n' c')) b W' H' a' n' c' := ((Blk.set_ (Blk.set_ (Blk.set_ h 0 _) 1 _) 2 _)).eq_ (by simp [im3])
end
/-- what a run leaves -/
def RunPost (fm : Int) (D : Dec) (x : Led) (w w' : World) (e : Ending) : Prop :=
  ∃ g y, LedAt w' g y ∧ y.Ok ∧ w.heap.size ≤ g ∧ Below w.heap.size w w' ∧
    ((∃ k a : Nat, k ≠ 0 ∧ D.run x = (y, .bad k a) ∧ e = .returned (.tuple #[.agg #[.int .i64 0, .int .i64 0, .slice none 0 0], .agg #[.int .i64 (k : Int), .int .i64 fm, .int .i64 (a : Int)], .pointer (some ⟨g, 0, none⟩)])) ∨
     (∃ (W H : Nat) (l : List UInt8) (d : Nat), D.run x = (y, .img W H l) ∧ e = .returned (.tuple #[.agg #[.int .i64 (W : Int), .int .i64 (H : Int), .slice (some ⟨d, 0, none⟩) l.length l.length], .agg #[.int .i64 0, .int .i64 0, .int .i64 0], .pointer (some ⟨g, 0, none⟩)]) ∧ BytesAt w' (some ⟨d, 0, none⟩) l.length l))
theorem BytesAt.of_blk {w : World} {d : Nat} {l : List UInt8} (h : Blk w d 5 (C8 l).toArray) : BytesAt w (some ⟨d, 0, none⟩) l.length l := by
  refine ⟨rfl, .inr ⟨d, 0, rfl, fun j hj => ?_⟩⟩
  rw [Nat.zero_add, Blk.cell h j]
  simp [C8, List.getElem?_eq_getElem hj]
set_option maxRecDepth 100000 in
set_option maxHeartbeats 4000000 in
theorem run15 {F : Nat} {fm : Int} {D : Dec} {s : ByteArray} {ba bb bc bd : Int} {x0 : Led} (hx0 : Led.new ba bb bc bd = x0) (hok : x0.Ok) (hr0 : x0.reason = 0) (hsm : s.size ≤ 1099511627776)
    (hent : ∀ p w, (callFunc F #[.pointer (some ⟨p, 0, none⟩)]).run Tryz.prog w = .ok (.enter F #[.pointer (some ⟨p, 0, none⟩)]) w)
    (hdec : ∀ w p g, SrcAt w p g s 0 s.size 0 → LedAt w g x0 → Calls Tryz.prog F #[.pointer (some ⟨p, 0, none⟩)] w fun e w' => DecPost fm D x0 w w' p g e) (w : World) :
    Calls Tryz.prog 21 #[.string s, .agg #[.int .i64 ba, .int .i64 bb, .int .i64 bc, .int .i64 bd], .func (.func F) #[] #[]] w fun e w' => RunPost fm D x0 w w' e := by
  have HD := Lib.hid hdec
  have HX := Lib.hid hx0
  have HSM := Lib.hid hsm
  clear hdec hx0 hsm hok hr0
  go_enter Tryz.func21, Tryz.ntmps21
  go_wp2_with fail
  have A1 : ∃ ws q6 q7, ws = (((w.alloc (.cells #[.int .i64 ba, .int .i64 bb, .int .i64 bc, .int .i64 bd] 47)).alloc (.cells #[.int .i64 0, .int .i64 0, .slice none 0 0] 32)).alloc (.cells #[.int .i64 0, .int .i64 0, .int .i64 0] 34)) ∧ q6 = w.heap.size + 1 ∧ q7 = w.heap.size + 1 + 1 ∧ IB ws q6 0 0 none 0 0 ∧ FB ws q7 0 0 0 ∧ Below w.heap.size w ws :=
    ⟨_, _, _, rfl, rfl, rfl, Blk.alloc (Blk.new_at _ _ _ (by simp)) _, Blk.new_at _ _ _ (by simp), (((Below.refl _ _).alloc (Nat.le_refl _) _).alloc (by simp) _).alloc (by simp; omega) _⟩
  obtain ⟨ws, q6, q7, hws, hq6, hq7, I0, F0, B0⟩ := A1
  have hs6 : w.heap.size ≤ q6 := by omega
  have hs7 : w.heap.size ≤ q7 := by omega
  rw [← hws, ← hq7, ← hq6]
  have hl6 := Blk.lt I0
  have hl7 := Blk.lt F0
  have h67 : q6 ≠ q7 := Blk.ne_ I0 F0 (by decide)
  have I1 := Lib.hid I0
  have F1 := Lib.hid F0
  have B1 := Lib.hid B0
  clear hws hq6 hq7 I0 F0 B0
  refine (ledNew_at HX.out _).mono ?_
  rintro e w1 ⟨g, rfl, hgn, l1, b1⟩
  have hs1 := b1.size
  go_wp2_with (first
    | (go_at_call 36; refine (srcNew_any _ _ _).mono ?_; rintro e w2 ⟨p, rfl, hpn, s2, b2⟩))
  have hs2 := b2.size
  have l2 := Blk.below l1 b2 (Blk.lt l1)
  have I2 : IB w2 q6 0 0 none 0 0 := Blk.below (Blk.below I1.out b1 (by omega)) b2 (by omega)
  have F2 : FB w2 q7 0 0 0 := Blk.below (Blk.below F1.out b1 (by omega)) b2 (by omega)
  have hwS : w.heap.size ≤ ws.heap.size := B1.out.size
  have B2 : Below w.heap.size w w2 := below_next (below_next B1.out b1) b2
  have n6 : q6 ∉ [p, g] := by simp; omega
  have n7 : q7 ∉ [p, g] := by simp; omega
  refine (HD.out _ _ _ s2 l2).mono ?_
  rintro e w3 ⟨y, l3, yok, t3, hor⟩
  have I3 : IB w3 q6 0 0 none 0 0 := Blk.turn I2 t3 n6
  have F3 : FB w3 q7 0 0 0 := Blk.turn F2 t3 n7
  have hs3 := t3.size
  have B3 : Below w.heap.size w w3 := Turn.belowNext B2 t3 (by simp; omega) B2.size
  have HY := Lib.hid yok
  have hgw : w.heap.size ≤ g := by omega
  have hw2 := B2.size
  clear I1 F1 B1 b1 b2 s2 l1 l2 I2 F2 B2 t3 yok hl6 hl7 hs1 hs2 hpn hgn
  rcases hor with ⟨k, a, hk, hrun, rfl⟩ | ⟨W, H, l, r, b, d, hrun, rfl, R3, M3, hrn, hbn, hdn⟩
  · have HR := Lib.hid hrun
    clear hrun
    go_wp2_with fail
    have I4 : IB (w3.alloc (.cells #[.int .i64 (k : Int), .int .i64 fm, .int .i64 (a : Int)] 34)) q6 0 0 none 0 0 := Blk.alloc I3 _
    have F4 : FB (w3.alloc (.cells #[.int .i64 (k : Int), .int .i64 fm, .int .i64 (a : Int)] 34)) q7 0 0 0 := Blk.alloc F3 _
    have G4 : FB (w3.alloc (.cells #[.int .i64 (k : Int), .int .i64 fm, .int .i64 (a : Int)] 34)) w3.heap.size (k : Int) fm (a : Int) := Blk.new _ _ _
    have L4 : LedAt (w3.alloc (.cells #[.int .i64 (k : Int), .int .i64 fm, .int .i64 (a : Int)] 34)) g y := Blk.alloc l3 _
    have B4 : Below w.heap.size w (w3.alloc (.cells #[.int .i64 (k : Int), .int .i64 fm, .int .i64 (a : Int)] 34)) := B3.alloc B3.size _
    have h78 : q7 ≠ w3.heap.size := Nat.ne_of_lt (Blk.lt F3)
    have h68 : q6 ≠ w3.heap.size := Nat.ne_of_lt (Blk.lt I3)
    generalize w3.alloc (.cells #[.int .i64 (k : Int), .int .i64 fm, .int .i64 (a : Int)] 34) = w4 at I4 F4 G4 L4 B4 ⊢
    generalize w3.heap.size = q at G4 h78 h68 ⊢
    have h87 := h78.symm
    have h86 := h68.symm
    have h76 := h67.symm
    obtain ⟨c0, c1, c2, z0, z1, z2, fl⟩ := IB.all I4
    obtain ⟨d0, d1, d2, y0, y1, y2, gl⟩ := FB.all F4
    obtain ⟨e0, e1, e2, x0', x1, x2, hl⟩ := FB.all G4
    have HL := Lib.hid L4
    have HB := Lib.hid B4
    have hg6 : g ≠ q6 := Blk.ne_ L4 I4 (by decide)
    have hg7 : g ≠ q7 := Blk.ne_ L4 F4 (by decide)
    clear I3 F3 l3 B3 hs3 I4 F4 G4 L4 B4
    go_region
    all_goals go_wp2_with fail
    exact bodyPost_ret (v := .tuple #[.agg #[.int .i64 0, .int .i64 0, .slice none 0 0], .agg #[.int .i64 (k : Int), .int .i64 fm, .int .i64 (a : Int)], .pointer (some ⟨g, 0, none⟩)]) (by simp [results, Tryz.results21, go_sem, c0, c1, c2, d0, d1, d2, h67, h76]) rfl ⟨g, y, (Blk.st3 (Blk.st3 HL.out hg6) hg7).drew, HY.out, hgw, (below_set3 (below_set3 HB.out hs6) hs7).drew, .inl ⟨k, a, hk, HR.out, rfl⟩⟩
  · have HR := Lib.hid hrun
    clear hrun
    have hl6 := Blk.lt I3
    have hl7 := Blk.lt F3
    have hlr := Blk.lt R3
    have hlb := Blk.lt M3.blk
    have hlg := Blk.lt l3
    have R4 : RasAt (w3.alloc (.cells #[.int .i64 0, .int .i64 0, .int .i64 0] 34)) r g b (W : Int) (H : Int) true := Blk.alloc R3 _
    have M4 : BufAt (w3.alloc (.cells #[.int .i64 0, .int .i64 0, .int .i64 0] 34)) b g d l := ⟨Blk.alloc M3.blk _, Blk.alloc M3.row _⟩
    have I4 : IB (w3.alloc (.cells #[.int .i64 0, .int .i64 0, .int .i64 0] 34)) q6 0 0 none 0 0 := Blk.alloc I3 _
    have F4 : FB (w3.alloc (.cells #[.int .i64 0, .int .i64 0, .int .i64 0] 34)) q7 0 0 0 := Blk.alloc F3 _
    have G4 : FB (w3.alloc (.cells #[.int .i64 0, .int .i64 0, .int .i64 0] 34)) w3.heap.size 0 0 0 := Blk.new _ _ _
    have L4 : LedAt (w3.alloc (.cells #[.int .i64 0, .int .i64 0, .int .i64 0] 34)) g y := Blk.alloc l3 _
    have B4 : Below w.heap.size w (w3.alloc (.cells #[.int .i64 0, .int .i64 0, .int .i64 0] 34)) := B3.alloc B3.size _
    have k7 : q7 ∉ [r, b] := by simp only [List.mem_cons, List.not_mem_nil, or_false, not_or]; exact ⟨Blk.ne_ F3 R3 (by decide), Blk.ne_ F3 M3.blk (by decide)⟩
    have k6 : q6 ∉ [r, b] := by simp only [List.mem_cons, List.not_mem_nil, or_false, not_or]; exact ⟨Blk.ne_ I3 R3 (by decide), Blk.ne_ I3 M3.blk (by decide)⟩
    have kg : g ∉ [r, b] := by simp only [List.mem_cons, List.not_mem_nil, or_false, not_or]; exact ⟨Blk.ne_ l3 R3 (by decide), Blk.ne_ l3 M3.blk (by decide)⟩
    have kq : w3.heap.size ∉ [r, b] := by simp; omega
    go_wp2_with (go_at_call 40; refine (rasImage_yes R4 M4).mono ?_; rintro e w5 ⟨rfl, r5, m5, d5, t5⟩)
    have I6 : IB (w5.alloc (.cells #[.int .i64 (W : Int), .int .i64 (H : Int), .slice (some ⟨d, 0, none⟩) l.length l.length] 32)) q6 0 0 none 0 0 := Blk.alloc (Blk.turn I4 t5 k6) _
    have F6 : FB (w5.alloc (.cells #[.int .i64 (W : Int), .int .i64 (H : Int), .slice (some ⟨d, 0, none⟩) l.length l.length] 32)) q7 0 0 0 := Blk.alloc (Blk.turn F4 t5 k7) _
    have G6 : FB (w5.alloc (.cells #[.int .i64 (W : Int), .int .i64 (H : Int), .slice (some ⟨d, 0, none⟩) l.length l.length] 32)) w3.heap.size 0 0 0 := Blk.alloc (Blk.turn G4 t5 kq) _
    have J6 : IB (w5.alloc (.cells #[.int .i64 (W : Int), .int .i64 (H : Int), .slice (some ⟨d, 0, none⟩) l.length l.length] 32)) w5.heap.size (W : Int) (H : Int) (some ⟨d, 0, none⟩) l.length l.length := Blk.new _ _ _
    have L6 : LedAt (w5.alloc (.cells #[.int .i64 (W : Int), .int .i64 (H : Int), .slice (some ⟨d, 0, none⟩) l.length l.length] 32)) g y := Blk.alloc (Blk.turn L4 t5 kg) _
    have D6 : Blk (w5.alloc (.cells #[.int .i64 (W : Int), .int .i64 (H : Int), .slice (some ⟨d, 0, none⟩) l.length l.length] 32)) d 5 (C8 l).toArray := Blk.alloc d5 _
    have B5 := Turn.belowNext B4 t5 (by simp; omega) B4.size
    have B6 : Below w.heap.size w (w5.alloc (.cells #[.int .i64 (W : Int), .int .i64 (H : Int), .slice (some ⟨d, 0, none⟩) l.length l.length] 32)) := B5.alloc B5.size _
    have hz5 := t5.size
    have hz5' : w3.heap.size + 1 ≤ w5.heap.size := by simpa using hz5
    have p1 : q6 ≠ w5.heap.size := by omega
    have p2 : q7 ≠ w5.heap.size := by omega
    have p3 : q6 ≠ w3.heap.size := by omega
    have p4 : q7 ≠ w3.heap.size := by omega
    have p5 := p1.symm
    have p6 := p2.symm
    have p7 := p3.symm
    have p8 := p4.symm
    have h76 := h67.symm
    generalize w5.alloc (.cells #[.int .i64 (W : Int), .int .i64 (H : Int), .slice (some ⟨d, 0, none⟩) l.length l.length] 32) = w6 at I6 F6 G6 J6 L6 D6 B6 ⊢
    generalize w5.heap.size = qi at J6 p1 p2 p5 p6 ⊢
    generalize w3.heap.size = qf at G6 p3 p4 p7 p8 ⊢
    obtain ⟨c0, c1, c2, z0, z1, z2, fl⟩ := IB.all I6
    obtain ⟨d0, d1, d2, y0, y1, y2, gl⟩ := FB.all F6
    obtain ⟨e0, e1, e2, x0', x1, x2, hl⟩ := FB.all G6
    obtain ⟨f0, f1, f2, v0, v1, v2, il⟩ := IB.all J6
    have HL := Lib.hid L6
    have HB := Lib.hid B6
    have HD6 := Lib.hid D6
    have hg6 : g ≠ q6 := Blk.ne_ L6 I6 (by decide)
    have hg7 : g ≠ q7 := Blk.ne_ L6 F6 (by decide)
    have hd6 : d ≠ q6 := Blk.ne_ D6 I6 (by decide)
    have hd7 : d ≠ q7 := Blk.ne_ D6 F6 (by decide)
    clear I3 F3 l3 B3 hs3 I4 F4 G4 L4 B4 R3 M3 R4 M4 r5 m5 d5 t5 I6 F6 G6 J6 L6 B6 D6 B5 hz5 hz5' k6 k7 kg kq
    go_region
    all_goals go_wp2_with fail
    all_goals exact bodyPost_ret (v := .tuple #[.agg #[.int .i64 (W : Int), .int .i64 (H : Int), .slice (some ⟨d, 0, none⟩) l.length l.length], .agg #[.int .i64 0, .int .i64 0, .int .i64 0], .pointer (some ⟨g, 0, none⟩)]) (by simp [results, Tryz.results21, go_sem, c0, c1, c2, d0, d1, d2, h67, h76]) rfl ⟨g, y, (Blk.st3 (Blk.st3 HL.out hg6) hg7).drew, HY.out, hgw, (below_set3 (below_set3 HB.out hs6) hs7).drew, .inr ⟨W, H, l, d, HR.out, rfl, BytesAt.of_blk (Blk.st3 (Blk.st3 HD6.out hd6) hd7).drew⟩⟩
end Go.Proofs.YtgmgcfjllijhgaaGreat
