/- tgarle: the next pixel is read, and put in; a packet. -/
import Derived.Test.YtlehkgkomjojmaaGreatSq
import Derived.Test.YtlehkgkomjojmaaGreatGTgaI
import Derived.Deep.CutRange
namespace Go.Proofs.YtlehkgkomjojmaaGreat
open Go.RowKit
set_option linter.unusedVariables false
set_option linter.unusedSimpArgs false

theorem XF.s14 {w : World} {x p : Nat} {h : TgaHd} {lv : Value} {r k : Nat} (H : XF w x p h lv r k) : w.cell? ⟨x, 0, none⟩ = some (.pointer (some ⟨p, 0, none⟩)) ∧ w.cell? ⟨x, 1, none⟩ = some (.int .i64 (h.name : Int)) ∧ w.cell? ⟨x, 2, none⟩ = some (.bool h.map) ∧ w.cell? ⟨x, 3, none⟩ = some (.int .i64 (h.typ : Int)) ∧ w.cell? ⟨x, 4, none⟩ = some (.int .i64 (h.first : Int)) ∧ w.cell? ⟨x, 5, none⟩ = some (.int .i64 (h.count : Int)) ∧ w.cell? ⟨x, 6, none⟩ = some (.int .i64 (h.entry : Int)) ∧ w.cell? ⟨x, 7, none⟩ = some (.int .i64 (h.W : Int)) ∧ w.cell? ⟨x, 8, none⟩ = some (.int .i64 (h.H : Int)) ∧ w.cell? ⟨x, 9, none⟩ = some (.int .i64 (h.depth : Int)) ∧ w.cell? ⟨x, 10, none⟩ = some (.int .i64 (h.alpha : Int)) ∧ w.cell? ⟨x, 11, none⟩ = some (.bool h.left) ∧ w.cell? ⟨x, 12, none⟩ = some (.bool h.top) ∧ w.cell? ⟨x, 13, none⟩ = some lv :=
  ⟨Blk.cell H 0, Blk.cell H 1, Blk.cell H 2, Blk.cell H 3, Blk.cell H 4, Blk.cell H 5, Blk.cell H 6, Blk.cell H 7, Blk.cell H 8, Blk.cell H 9, Blk.cell H 10, Blk.cell H 11, Blk.cell H 12, Blk.cell H 13⟩
def TPixU (w w' : World) (p g : Nat) (s : ByteArray) (h : TgaHd) (M : List Qc) (a : Nat) (y : Led) (e : Ending) : Prop :=
  ∃ (y' : Led) (a' : Nat) (q : Qc) (kk ff aa : Nat), e = .returned (.tuple #[.agg #[.int .u8 (q.r.toNat : Int), .int .u8 (q.g.toNat : Int), .int .u8 (q.b.toNat : Int), .int .u8 (q.a.toNat : Int)], .agg #[.int .i64 (kk : Int), .int .i64 (ff : Int), .int .i64 (aa : Int)]]) ∧ LedAt w' g y' ∧ y'.Ok ∧ y'.bytes = y.bytes ∧ Turn [p, g] w w' ∧ SrcAt w' p g s 0 s.size a' ∧ a' ≤ s.size ∧
    ((kk ≠ 0 ∧ ff = 2 ∧ ∀ z times L k, (tgaNext s h M z times a L k).run y = ((y'.give (z : Int)).1, .bad kk aa)) ∨
     (kk = 0 ∧ ff = 0 ∧ aa = 0 ∧ y'.reason = 0 ∧ ∀ z times L k, (tgaNext s h M z times a L k).run y = (tgaPuts z a' times L q (k a')).run y'))
theorem tgaPixelU {w : World} {p g a m B : Nat} {s : ByteArray} {h : TgaHd} {M : List Qc} {y : Led} {lv : Value} (hh : h.Ok) (TP : TPal w g h lv M m B) (hsm : s.size ≤ 1099511627776) (ha : a ≤ s.size) (S0 : SrcAt w p g s 0 s.size a) (L0 : LedAt w g y) (ok : y.Ok) (hr : y.reason = 0) :
    Calls Tryz.prog 198 #[.pointer (some ⟨p, 0, none⟩), tHdV h, lv] w fun e w' => TPixU w w' p g s h M a y e := by
  refine (tgaPixelC hh TP hsm ha S0 L0 ok hr).mono ?_
  rintro e w' ⟨y', l', ok', b', t', hor⟩
  rcases hor with ⟨kk, aa, rfl, s', nr, nrun⟩ | ⟨rfl, s', yr', hle, hw, hp⟩ | ⟨q, rfl, s', yr', hle, hw, hp⟩
  · exact ⟨y', a, ⟨0, 0, 0, 0⟩, kk, 2, aa, rfl, l', ok', b', t', s', ha, .inl ⟨nr.ne, rfl, fun z times L k => nrun z _⟩⟩
  · exact ⟨y', _, ⟨0, 0, 0, 0⟩, 2, 2, a, rfl, l', ok', b', t', s', hle, .inl ⟨by decide, rfl, fun z times L k => by unfold tgaNext; rw [run_work_yes hw, if_pos hle, hp]; rfl⟩⟩
  · exact ⟨y', _, q, 0, 0, 0, rfl, l', ok', b', t', s', hle, .inr ⟨rfl, rfl, rfl, yr', fun z times L k => by unfold tgaNext; rw [run_work_yes hw, if_pos hle, hp]⟩⟩
/-- the ways of a step: what is wrong, or more pixels -/
def TNextPost (w w' : World) (p g x r b d : Nat) (s : ByteArray) (h : TgaHd) (lv : Value) (M : List Qc) (C : Nat → Prop) (D : Nat → (Nat → List Qc → Dec) → Dec) (L : List Qc) (y : Led) (e : Ending) : Prop :=
  ∃ (y' : Led) (L' : List Qc) (a' kk ff aa : Nat), e = .returned (.agg #[.int .i64 (kk : Int), .int .i64 (ff : Int), .int .i64 (aa : Int)]) ∧ TX w w' p g x r b d s h lv M a' L'.length L' y' ∧ y'.bytes = y.bytes ∧
    ((kk ≠ 0 ∧ ff = 2 ∧ ∀ z k, (D z k).run y = ((y'.give (z : Int)).1, .bad kk aa)) ∨
     (kk = 0 ∧ ff = 0 ∧ aa = 0 ∧ C L'.length ∧ y'.reason = 0 ∧ ∀ z k, (D z k).run y = (k a' L').run y'))
set_option maxRecDepth 100000 in
set_option maxHeartbeats 4000000 in
theorem tgaNextC {w : World} {p g x r b d : Nat} {s : ByteArray} {h : TgaHd} {lv : Value} {M : List Qc} {a n : Nat} {L : List Qc} {y : Led} (hh : h.Ok) (hsm : s.size ≤ 1099511627776) (I0 : TX w w p g x r b d s h lv M a L.length L y) (hr : y.reason = 0) (hn1 : 1 ≤ n) (hn : L.length + n ≤ h.W * h.H) :
    Calls Tryz.prog 179 #[.pointer (some ⟨x, 0, none⟩), .int .i64 (n : Int)] w fun e w' => TNextPost w w' p g x r b d s h lv M (fun l => l = L.length + n) (fun z k => tgaNext s h M z n a L k) L y e := by
  have I1 := I0.alloc (.cells #[.int .i64 0, .int .i64 0, .int .i64 0] 34)
  have F1 : FB (w.alloc (.cells #[.int .i64 0, .int .i64 0, .int .i64 0] 34)) w.heap.size 0 0 0 := Blk.new _ _ _
  have HH := Lib.hid (And.intro hh (And.intro hsm (And.intro hr (And.intro hn1 hn))))
  have hP : h.W * h.H ≤ 16384 * 16384 := Nat.mul_le_mul hh.w2 hh.h2
  have hnB : (n : Int) ≤ 268435456 := by omega
  clear I0 hh hsm hr hn hn1 hP
  go_enter Tryz.func179, Tryz.ntmps179
  go_upto_region 1 with fail
  generalize (w.alloc (.cells #[.int .i64 0, .int .i64 0, .int .i64 0] 34)) = w1 at I1 F1 ⊢
  go_cut [5, 6] from 8 to 22 (fun c5 c6 wx => ∃ (q5 q6 : Nat) (y' : Led) (a' : Nat) (q : Qc) (kk ff aa : Nat), c5 = .pointer (some ⟨q5, 0, none⟩) ∧ c6 = .pointer (some ⟨q6, 0, none⟩) ∧ Hid (TX w wx p g x r b d s h lv M a' L.length L y' ∧ FB wx w.heap.size 0 0 0 ∧ Blk wx q5 68 #[.int .u8 (q.r.toNat : Int), .int .u8 (q.g.toNat : Int), .int .u8 (q.b.toNat : Int), .int .u8 (q.a.toNat : Int)] ∧ FB wx q6 (kk : Int) (ff : Int) (aa : Int) ∧ w.heap.size < q5 ∧ w.heap.size < q6) ∧ Hid (y'.bytes = y.bytes ∧ ((kk ≠ 0 ∧ ff = 2 ∧ ∀ z times L k, (tgaNext s h M z times a L k).run y = ((y'.give (z : Int)).1, .bad kk aa)) ∨ (kk = 0 ∧ ff = 0 ∧ aa = 0 ∧ y'.reason = 0 ∧ ∀ z times L k, (tgaNext s h M z times a L k).run y = (tgaPuts z a' times L q (k a')).run y'))))
  case first =>
    have XD := I1.drew
    have FD : FB w1.drew w.heap.size 0 0 0 := Blk.drew F1
    refine wp_region_held_drew (S := (fun w9 => w9.cell? ⟨x, 0, none⟩ = some (.pointer (some ⟨p, 0, none⟩)) ∧ w9.cell? ⟨x, 1, none⟩ = some (.int .i64 (h.name : Int)) ∧ w9.cell? ⟨x, 2, none⟩ = some (.bool h.map) ∧ w9.cell? ⟨x, 3, none⟩ = some (.int .i64 (h.typ : Int)) ∧ w9.cell? ⟨x, 4, none⟩ = some (.int .i64 (h.first : Int)) ∧ w9.cell? ⟨x, 5, none⟩ = some (.int .i64 (h.count : Int)) ∧ w9.cell? ⟨x, 6, none⟩ = some (.int .i64 (h.entry : Int)) ∧ w9.cell? ⟨x, 7, none⟩ = some (.int .i64 (h.W : Int)) ∧ w9.cell? ⟨x, 8, none⟩ = some (.int .i64 (h.H : Int)) ∧ w9.cell? ⟨x, 9, none⟩ = some (.int .i64 (h.depth : Int)) ∧ w9.cell? ⟨x, 10, none⟩ = some (.int .i64 (h.alpha : Int)) ∧ w9.cell? ⟨x, 11, none⟩ = some (.bool h.left) ∧ w9.cell? ⟨x, 12, none⟩ = some (.bool h.top) ∧ w9.cell? ⟨x, 13, none⟩ = some lv)) (by kernel_rfl) XD.X.s14 (fun hHeld => ?_)
    generalize w1.drew = w2 at XD FD hHeld ⊢
    clear I1 F1
    refine tk 0 ?_
    (try simp only [sps])
    refine tk 1 ?_
    (try simp only [sps])
    refine tk 2 ?_
    (try simp only [sps])
    refine tk 3 ?_
    (try simp only [sps])
    refine tk 4 ?_
    (try simp only [sps])
    refine tk 5 ?_
    (try simp only [sps])
    refine tk 6 ?_
    (try simp only [sps])
    refine tk 7 ?_
    (try simp only [sps])
    refine tk 8 ?_
    (try simp only [sps])
    refine tk 9 ?_
    (try simp only [sps])
    refine tk 10 ?_
    (try simp only [sps])
    refine tk 11 ?_
    (try simp only [sps])
    refine wpAnyH_ready (rs := [12, 16, 17]) (by kernel_rfl) (by simp) ?_
    refine AllReadyH.cons rfl (fun K hK => ?_) (AllReadyH.cons rfl (fun K hK => ?_) (AllReadyH.cons rfl (fun K hK => ?_) AllReadyH.nil))
    · go_simp
      obtain ⟨m0, TP0⟩ := XD.P.tp
      have HPX := tgaPixelU HH.out.1 TP0 HH.out.2.1 XD.ha XD.S XD.G XD.ok HH.out.2.2.1
      unfold tHdV at HPX
      refine HPX.mono ?_
      clear HPX TP0
      rintro e w11 ⟨y2, a2, q, kk, ff, aa, rfl, l2, ok2, b2, t2, s2, ha2, hor⟩
      have X11 := XD.read t2 s2 l2 ok2 ha2
      have F11 : FB w11 w.heap.size 0 0 0 := Blk.turn FD t2 (by simp only [List.mem_cons, List.not_mem_nil, or_false, not_or]; exact ⟨Blk.ne_ FD XD.S (by decide), Blk.ne_ FD XD.G (by decide)⟩)
      refine hK.out _ _ X11.X.s14 ?_
      clear hK K hHeld
      intro hHeld
      (try simp only [sps])
      refine tk 13 ?_
      (try simp only [sps])
      refine tk 14 ?_
      (try simp only [sps])
      refine tk 15 ?_
      (try simp only [sps])
      refine wpAnyH_ready (rs := [16, 17]) (by kernel_rfl) (by simp) ?_
      refine AllReadyH.cons rfl (fun K hK => ?_) (AllReadyH.cons rfl (fun K hK => ?_) AllReadyH.nil)
      · go_simp
        have X12 := X11.alloc (.cells #[.int .u8 0, .int .u8 0, .int .u8 0, .int .u8 0] 68)
        have F12 : FB (w11.alloc (.cells #[.int .u8 0, .int .u8 0, .int .u8 0, .int .u8 0] 68)) w.heap.size 0 0 0 := Blk.alloc F11 _
        have C12 : Blk (w11.alloc (.cells #[.int .u8 0, .int .u8 0, .int .u8 0, .int .u8 0] 68)) w11.heap.size 68 #[.int .u8 0, .int .u8 0, .int .u8 0, .int .u8 0] := Blk.new _ _ _
        have hq5 : w.heap.size < w11.heap.size := Blk.lt F11
        generalize w11.alloc (.cells #[.int .u8 0, .int .u8 0, .int .u8 0, .int .u8 0] 68) = w12 at X12 F12 C12 ⊢
        generalize w11.heap.size = q5 at C12 hq5 ⊢
        refine hK.out _ _ X12.X.s14 ?_
        clear hK K hHeld
        intro hHeld
        (try simp only [sps])
        refine rdy 17 (fun K hK => ?_)
        go_simp
        have X13 := X12.alloc (.cells #[.int .i64 0, .int .i64 0, .int .i64 0] 34)
        have F13 : FB (w12.alloc (.cells #[.int .i64 0, .int .i64 0, .int .i64 0] 34)) w.heap.size 0 0 0 := Blk.alloc F12 _
        have C13 : Blk (w12.alloc (.cells #[.int .i64 0, .int .i64 0, .int .i64 0] 34)) q5 68 #[.int .u8 0, .int .u8 0, .int .u8 0, .int .u8 0] := Blk.alloc C12 _
        have E13 : FB (w12.alloc (.cells #[.int .i64 0, .int .i64 0, .int .i64 0] 34)) w12.heap.size 0 0 0 := Blk.new _ _ _
        have hq6 : w.heap.size < w12.heap.size := Blk.lt F12
        generalize w12.alloc (.cells #[.int .i64 0, .int .i64 0, .int .i64 0] 34) = w13 at X13 F13 C13 E13 ⊢
        generalize w12.heap.size = q6 at E13 hq6 ⊢
        refine hK.out _ _ X13.X.s14 ?_
        clear hK K hHeld
        intro hHeld
        (try simp only [sps])
        have v0 := Blk.frozen C13 0
        have u0 := Blk.cell C13 0
        have v1 := Blk.frozen C13 1
        have u1 := Blk.cell C13 1
        have v2 := Blk.frozen C13 2
        have u2 := Blk.cell C13 2
        have v3 := Blk.frozen C13 3
        have u3 := Blk.cell C13 3
        have ul := Blk.lt C13
        refine rdy 18 (fun K hK => ?_)
        go_simp
        have X7 := X13.st4 (c0 := (q.r.toNat : Int)) (c1 := (q.g.toNat : Int)) (c2 := (q.b.toNat : Int)) (c3 := (q.a.toNat : Int)) C13 (Nat.le_of_lt hq5)
        have F7 : FB (st4 w13 q5 (q.r.toNat : Int) (q.g.toNat : Int) (q.b.toNat : Int) (q.a.toNat : Int)) w.heap.size 0 0 0 := Blk.st4 F13 (Blk.ne_ F13 C13 (by decide))
        have E7 : FB (st4 w13 q5 (q.r.toNat : Int) (q.g.toNat : Int) (q.b.toNat : Int) (q.a.toNat : Int)) q6 0 0 0 := Blk.st4 E13 (Blk.ne_ E13 C13 (by decide))
        have C7 : Blk (st4 w13 q5 (q.r.toNat : Int) (q.g.toNat : Int) (q.b.toNat : Int) (q.a.toNat : Int)) q5 68 #[.int .u8 (q.r.toNat : Int), .int .u8 (q.g.toNat : Int), .int .u8 (q.b.toNat : Int), .int .u8 (q.a.toNat : Int)] := ((((Blk.set_ C13 0 _).set_ 1 _).set_ 2 _).set_ 3 _).eq_ (by simp)
        change K _ (st4 w13 q5 (q.r.toNat : Int) (q.g.toNat : Int) (q.b.toNat : Int) (q.a.toNat : Int))
        generalize st4 w13 q5 (q.r.toNat : Int) (q.g.toNat : Int) (q.b.toNat : Int) (q.a.toNat : Int) = w8 at X7 F7 E7 C7 ⊢
        refine hK.out _ _ X7.X.s14 ?_
        clear hK K hHeld
        intro hHeld
        (try simp only [sps])
        clear v0 v1 v2 v3 u0 u1 u2 u3 ul
        obtain ⟨u0, u1, u2, v0, v1, v2, ul⟩ := FB.all E7
        refine rdy 19 (fun K hK => ?_)
        go_simp
        have X8 := X7.st3 (u := .int .i64 (kk : Int)) (v := .int .i64 (ff : Int)) (e := .int .i64 (aa : Int)) E7 (Nat.le_of_lt hq6)
        have F8 : FB (st3 w8 q6 (.int .i64 (kk : Int)) (.int .i64 (ff : Int)) (.int .i64 (aa : Int))) w.heap.size 0 0 0 := Blk.st3 F7 (Nat.ne_of_lt hq6)
        have C8 : Blk (st3 w8 q6 (.int .i64 (kk : Int)) (.int .i64 (ff : Int)) (.int .i64 (aa : Int))) q5 68 #[.int .u8 (q.r.toNat : Int), .int .u8 (q.g.toNat : Int), .int .u8 (q.b.toNat : Int), .int .u8 (q.a.toNat : Int)] := Blk.st3 C7 (Blk.ne_ C7 E7 (by decide))
        have E8 : FB (st3 w8 q6 (.int .i64 (kk : Int)) (.int .i64 (ff : Int)) (.int .i64 (aa : Int))) q6 (kk : Int) (ff : Int) (aa : Int) := FB.st3 E7
        refine hK.out _ _ X8.X.s14 ?_
        clear hK K hHeld
        intro hHeld
        (try simp only [sps])
        refine wpAnyH_done (by kernel_rfl) ?_ _
        (try simp only [sps])
        go_wp2_with fail
        go_meet
        case rel => exact ⟨q5, q6, y2, a2, q, kk, ff, aa, rfl, rfl, Lib.hid ⟨X8, F8, C8, E8, hq5, hq6⟩, Lib.hid ⟨b2, hor⟩⟩
      · go_simp
        have X14 := X11.alloc (.cells #[.int .i64 0, .int .i64 0, .int .i64 0] 34)
        have F14 : FB (w11.alloc (.cells #[.int .i64 0, .int .i64 0, .int .i64 0] 34)) w.heap.size 0 0 0 := Blk.alloc F11 _
        have E14 : FB (w11.alloc (.cells #[.int .i64 0, .int .i64 0, .int .i64 0] 34)) w11.heap.size 0 0 0 := Blk.new _ _ _
        have hq6 : w.heap.size < w11.heap.size := Blk.lt F11
        generalize w11.alloc (.cells #[.int .i64 0, .int .i64 0, .int .i64 0] 34) = w14 at X14 F14 E14 ⊢
        generalize w11.heap.size = q6 at E14 hq6 ⊢
        refine hK.out _ _ X14.X.s14 ?_
        clear hK K hHeld
        intro hHeld
        (try simp only [sps])
        refine rdy 16 (fun K hK => ?_)
        go_simp
        have X15 := X14.alloc (.cells #[.int .u8 0, .int .u8 0, .int .u8 0, .int .u8 0] 68)
        have F15 : FB (w14.alloc (.cells #[.int .u8 0, .int .u8 0, .int .u8 0, .int .u8 0] 68)) w.heap.size 0 0 0 := Blk.alloc F14 _
        have E15 : FB (w14.alloc (.cells #[.int .u8 0, .int .u8 0, .int .u8 0, .int .u8 0] 68)) q6 0 0 0 := Blk.alloc E14 _
        have C15 : Blk (w14.alloc (.cells #[.int .u8 0, .int .u8 0, .int .u8 0, .int .u8 0] 68)) w14.heap.size 68 #[.int .u8 0, .int .u8 0, .int .u8 0, .int .u8 0] := Blk.new _ _ _
        have hq5 : w.heap.size < w14.heap.size := Blk.lt F14
        generalize w14.alloc (.cells #[.int .u8 0, .int .u8 0, .int .u8 0, .int .u8 0] 68) = w15 at X15 F15 E15 C15 ⊢
        generalize w14.heap.size = q5 at C15 hq5 ⊢
        refine hK.out _ _ X15.X.s14 ?_
        clear hK K hHeld
        intro hHeld
        (try simp only [sps])
        have v0 := Blk.frozen C15 0
        have u0 := Blk.cell C15 0
        have v1 := Blk.frozen C15 1
        have u1 := Blk.cell C15 1
        have v2 := Blk.frozen C15 2
        have u2 := Blk.cell C15 2
        have v3 := Blk.frozen C15 3
        have u3 := Blk.cell C15 3
        have ul := Blk.lt C15
        refine rdy 18 (fun K hK => ?_)
        go_simp
        have X7 := X15.st4 (c0 := (q.r.toNat : Int)) (c1 := (q.g.toNat : Int)) (c2 := (q.b.toNat : Int)) (c3 := (q.a.toNat : Int)) C15 (Nat.le_of_lt hq5)
        have F7 : FB (st4 w15 q5 (q.r.toNat : Int) (q.g.toNat : Int) (q.b.toNat : Int) (q.a.toNat : Int)) w.heap.size 0 0 0 := Blk.st4 F15 (Blk.ne_ F15 C15 (by decide))
        have E7 : FB (st4 w15 q5 (q.r.toNat : Int) (q.g.toNat : Int) (q.b.toNat : Int) (q.a.toNat : Int)) q6 0 0 0 := Blk.st4 E15 (Blk.ne_ E15 C15 (by decide))
        have C7 : Blk (st4 w15 q5 (q.r.toNat : Int) (q.g.toNat : Int) (q.b.toNat : Int) (q.a.toNat : Int)) q5 68 #[.int .u8 (q.r.toNat : Int), .int .u8 (q.g.toNat : Int), .int .u8 (q.b.toNat : Int), .int .u8 (q.a.toNat : Int)] := ((((Blk.set_ C15 0 _).set_ 1 _).set_ 2 _).set_ 3 _).eq_ (by simp)
        change K _ (st4 w15 q5 (q.r.toNat : Int) (q.g.toNat : Int) (q.b.toNat : Int) (q.a.toNat : Int))
        generalize st4 w15 q5 (q.r.toNat : Int) (q.g.toNat : Int) (q.b.toNat : Int) (q.a.toNat : Int) = w8 at X7 F7 E7 C7 ⊢
        refine hK.out _ _ X7.X.s14 ?_
        clear hK K hHeld
        intro hHeld
        (try simp only [sps])
        clear v0 v1 v2 v3 u0 u1 u2 u3 ul
        obtain ⟨u0, u1, u2, v0, v1, v2, ul⟩ := FB.all E7
        refine rdy 19 (fun K hK => ?_)
        go_simp
        have X8 := X7.st3 (u := .int .i64 (kk : Int)) (v := .int .i64 (ff : Int)) (e := .int .i64 (aa : Int)) E7 (Nat.le_of_lt hq6)
        have F8 : FB (st3 w8 q6 (.int .i64 (kk : Int)) (.int .i64 (ff : Int)) (.int .i64 (aa : Int))) w.heap.size 0 0 0 := Blk.st3 F7 (Nat.ne_of_lt hq6)
        have C8 : Blk (st3 w8 q6 (.int .i64 (kk : Int)) (.int .i64 (ff : Int)) (.int .i64 (aa : Int))) q5 68 #[.int .u8 (q.r.toNat : Int), .int .u8 (q.g.toNat : Int), .int .u8 (q.b.toNat : Int), .int .u8 (q.a.toNat : Int)] := Blk.st3 C7 (Blk.ne_ C7 E7 (by decide))
        have E8 : FB (st3 w8 q6 (.int .i64 (kk : Int)) (.int .i64 (ff : Int)) (.int .i64 (aa : Int))) q6 (kk : Int) (ff : Int) (aa : Int) := FB.st3 E7
        refine hK.out _ _ X8.X.s14 ?_
        clear hK K hHeld
        intro hHeld
        (try simp only [sps])
        refine wpAnyH_done (by kernel_rfl) ?_ _
        (try simp only [sps])
        go_wp2_with fail
        go_meet
        case rel => exact ⟨q5, q6, y2, a2, q, kk, ff, aa, rfl, rfl, Lib.hid ⟨X8, F8, C8, E8, hq5, hq6⟩, Lib.hid ⟨b2, hor⟩⟩
    · go_simp
      have X16 := XD.alloc (.cells #[.int .u8 0, .int .u8 0, .int .u8 0, .int .u8 0] 68)
      have F16 : FB (w2.alloc (.cells #[.int .u8 0, .int .u8 0, .int .u8 0, .int .u8 0] 68)) w.heap.size 0 0 0 := Blk.alloc FD _
      have C16 : Blk (w2.alloc (.cells #[.int .u8 0, .int .u8 0, .int .u8 0, .int .u8 0] 68)) w2.heap.size 68 #[.int .u8 0, .int .u8 0, .int .u8 0, .int .u8 0] := Blk.new _ _ _
      have hq5 : w.heap.size < w2.heap.size := Blk.lt FD
      generalize w2.alloc (.cells #[.int .u8 0, .int .u8 0, .int .u8 0, .int .u8 0] 68) = w16 at X16 F16 C16 ⊢
      generalize w2.heap.size = q5 at C16 hq5 ⊢
      refine hK.out _ _ X16.X.s14 ?_
      clear hK K hHeld
      intro hHeld
      (try simp only [sps])
      refine wpAnyH_ready (rs := [12, 17]) (by kernel_rfl) (by simp) ?_
      refine AllReadyH.cons rfl (fun K hK => ?_) (AllReadyH.cons rfl (fun K hK => ?_) AllReadyH.nil)
      · go_simp
        obtain ⟨m0, TP0⟩ := X16.P.tp
        have HPX := tgaPixelU HH.out.1 TP0 HH.out.2.1 X16.ha X16.S X16.G X16.ok HH.out.2.2.1
        unfold tHdV at HPX
        refine HPX.mono ?_
        clear HPX TP0
        rintro e w17 ⟨y2, a2, q, kk, ff, aa, rfl, l2, ok2, b2, t2, s2, ha2, hor⟩
        have X17 := X16.read t2 s2 l2 ok2 ha2
        have F17 : FB w17 w.heap.size 0 0 0 := Blk.turn F16 t2 (by simp only [List.mem_cons, List.not_mem_nil, or_false, not_or]; exact ⟨Blk.ne_ F16 X16.S (by decide), Blk.ne_ F16 X16.G (by decide)⟩)
        have C17 : Blk w17 q5 68 #[.int .u8 0, .int .u8 0, .int .u8 0, .int .u8 0] := Blk.turn C16 t2 (by simp only [List.mem_cons, List.not_mem_nil, or_false, not_or]; exact ⟨Blk.ne_ C16 X16.S (by decide), Blk.ne_ C16 X16.G (by decide)⟩)
        refine hK.out _ _ X17.X.s14 ?_
        clear hK K hHeld
        intro hHeld
        (try simp only [sps])
        refine tk 13 ?_
        (try simp only [sps])
        refine tk 14 ?_
        (try simp only [sps])
        refine tk 15 ?_
        (try simp only [sps])
        refine rdy 17 (fun K hK => ?_)
        go_simp
        have X18 := X17.alloc (.cells #[.int .i64 0, .int .i64 0, .int .i64 0] 34)
        have F18 : FB (w17.alloc (.cells #[.int .i64 0, .int .i64 0, .int .i64 0] 34)) w.heap.size 0 0 0 := Blk.alloc F17 _
        have C18 : Blk (w17.alloc (.cells #[.int .i64 0, .int .i64 0, .int .i64 0] 34)) q5 68 #[.int .u8 0, .int .u8 0, .int .u8 0, .int .u8 0] := Blk.alloc C17 _
        have E18 : FB (w17.alloc (.cells #[.int .i64 0, .int .i64 0, .int .i64 0] 34)) w17.heap.size 0 0 0 := Blk.new _ _ _
        have hq6 : w.heap.size < w17.heap.size := Blk.lt F17
        generalize w17.alloc (.cells #[.int .i64 0, .int .i64 0, .int .i64 0] 34) = w18 at X18 F18 C18 E18 ⊢
        generalize w17.heap.size = q6 at E18 hq6 ⊢
        refine hK.out _ _ X18.X.s14 ?_
        clear hK K hHeld
        intro hHeld
        (try simp only [sps])
        have v0 := Blk.frozen C18 0
        have u0 := Blk.cell C18 0
        have v1 := Blk.frozen C18 1
        have u1 := Blk.cell C18 1
        have v2 := Blk.frozen C18 2
        have u2 := Blk.cell C18 2
        have v3 := Blk.frozen C18 3
        have u3 := Blk.cell C18 3
        have ul := Blk.lt C18
        refine rdy 18 (fun K hK => ?_)
        go_simp
        have X7 := X18.st4 (c0 := (q.r.toNat : Int)) (c1 := (q.g.toNat : Int)) (c2 := (q.b.toNat : Int)) (c3 := (q.a.toNat : Int)) C18 (Nat.le_of_lt hq5)
        have F7 : FB (st4 w18 q5 (q.r.toNat : Int) (q.g.toNat : Int) (q.b.toNat : Int) (q.a.toNat : Int)) w.heap.size 0 0 0 := Blk.st4 F18 (Blk.ne_ F18 C18 (by decide))
        have E7 : FB (st4 w18 q5 (q.r.toNat : Int) (q.g.toNat : Int) (q.b.toNat : Int) (q.a.toNat : Int)) q6 0 0 0 := Blk.st4 E18 (Blk.ne_ E18 C18 (by decide))
        have C7 : Blk (st4 w18 q5 (q.r.toNat : Int) (q.g.toNat : Int) (q.b.toNat : Int) (q.a.toNat : Int)) q5 68 #[.int .u8 (q.r.toNat : Int), .int .u8 (q.g.toNat : Int), .int .u8 (q.b.toNat : Int), .int .u8 (q.a.toNat : Int)] := ((((Blk.set_ C18 0 _).set_ 1 _).set_ 2 _).set_ 3 _).eq_ (by simp)
        change K _ (st4 w18 q5 (q.r.toNat : Int) (q.g.toNat : Int) (q.b.toNat : Int) (q.a.toNat : Int))
        generalize st4 w18 q5 (q.r.toNat : Int) (q.g.toNat : Int) (q.b.toNat : Int) (q.a.toNat : Int) = w8 at X7 F7 E7 C7 ⊢
        refine hK.out _ _ X7.X.s14 ?_
        clear hK K hHeld
        intro hHeld
        (try simp only [sps])
        clear v0 v1 v2 v3 u0 u1 u2 u3 ul
        obtain ⟨u0, u1, u2, v0, v1, v2, ul⟩ := FB.all E7
        refine rdy 19 (fun K hK => ?_)
        go_simp
        have X8 := X7.st3 (u := .int .i64 (kk : Int)) (v := .int .i64 (ff : Int)) (e := .int .i64 (aa : Int)) E7 (Nat.le_of_lt hq6)
        have F8 : FB (st3 w8 q6 (.int .i64 (kk : Int)) (.int .i64 (ff : Int)) (.int .i64 (aa : Int))) w.heap.size 0 0 0 := Blk.st3 F7 (Nat.ne_of_lt hq6)
        have C8 : Blk (st3 w8 q6 (.int .i64 (kk : Int)) (.int .i64 (ff : Int)) (.int .i64 (aa : Int))) q5 68 #[.int .u8 (q.r.toNat : Int), .int .u8 (q.g.toNat : Int), .int .u8 (q.b.toNat : Int), .int .u8 (q.a.toNat : Int)] := Blk.st3 C7 (Blk.ne_ C7 E7 (by decide))
        have E8 : FB (st3 w8 q6 (.int .i64 (kk : Int)) (.int .i64 (ff : Int)) (.int .i64 (aa : Int))) q6 (kk : Int) (ff : Int) (aa : Int) := FB.st3 E7
        refine hK.out _ _ X8.X.s14 ?_
        clear hK K hHeld
        intro hHeld
        (try simp only [sps])
        refine wpAnyH_done (by kernel_rfl) ?_ _
        (try simp only [sps])
        go_wp2_with fail
        go_meet
        case rel => exact ⟨q5, q6, y2, a2, q, kk, ff, aa, rfl, rfl, Lib.hid ⟨X8, F8, C8, E8, hq5, hq6⟩, Lib.hid ⟨b2, hor⟩⟩
      · go_simp
        have X19 := X16.alloc (.cells #[.int .i64 0, .int .i64 0, .int .i64 0] 34)
        have F19 : FB (w16.alloc (.cells #[.int .i64 0, .int .i64 0, .int .i64 0] 34)) w.heap.size 0 0 0 := Blk.alloc F16 _
        have C19 : Blk (w16.alloc (.cells #[.int .i64 0, .int .i64 0, .int .i64 0] 34)) q5 68 #[.int .u8 0, .int .u8 0, .int .u8 0, .int .u8 0] := Blk.alloc C16 _
        have E19 : FB (w16.alloc (.cells #[.int .i64 0, .int .i64 0, .int .i64 0] 34)) w16.heap.size 0 0 0 := Blk.new _ _ _
        have hq6 : w.heap.size < w16.heap.size := Blk.lt F16
        generalize w16.alloc (.cells #[.int .i64 0, .int .i64 0, .int .i64 0] 34) = w19 at X19 F19 C19 E19 ⊢
        generalize w16.heap.size = q6 at E19 hq6 ⊢
        refine hK.out _ _ X19.X.s14 ?_
        clear hK K hHeld
        intro hHeld
        (try simp only [sps])
        refine rdy 12 (fun K hK => ?_)
        go_simp
        obtain ⟨m0, TP0⟩ := X19.P.tp
        have HPX := tgaPixelU HH.out.1 TP0 HH.out.2.1 X19.ha X19.S X19.G X19.ok HH.out.2.2.1
        unfold tHdV at HPX
        refine HPX.mono ?_
        clear HPX TP0
        rintro e w20 ⟨y2, a2, q, kk, ff, aa, rfl, l2, ok2, b2, t2, s2, ha2, hor⟩
        have X20 := X19.read t2 s2 l2 ok2 ha2
        have F20 : FB w20 w.heap.size 0 0 0 := Blk.turn F19 t2 (by simp only [List.mem_cons, List.not_mem_nil, or_false, not_or]; exact ⟨Blk.ne_ F19 X19.S (by decide), Blk.ne_ F19 X19.G (by decide)⟩)
        have C20 : Blk w20 q5 68 #[.int .u8 0, .int .u8 0, .int .u8 0, .int .u8 0] := Blk.turn C19 t2 (by simp only [List.mem_cons, List.not_mem_nil, or_false, not_or]; exact ⟨Blk.ne_ C19 X19.S (by decide), Blk.ne_ C19 X19.G (by decide)⟩)
        have E20 : FB w20 q6 0 0 0 := Blk.turn E19 t2 (by simp only [List.mem_cons, List.not_mem_nil, or_false, not_or]; exact ⟨Blk.ne_ E19 X19.S (by decide), Blk.ne_ E19 X19.G (by decide)⟩)
        refine hK.out _ _ X20.X.s14 ?_
        clear hK K hHeld
        intro hHeld
        (try simp only [sps])
        refine tk 13 ?_
        (try simp only [sps])
        refine tk 14 ?_
        (try simp only [sps])
        refine tk 15 ?_
        (try simp only [sps])
        have v0 := Blk.frozen C20 0
        have u0 := Blk.cell C20 0
        have v1 := Blk.frozen C20 1
        have u1 := Blk.cell C20 1
        have v2 := Blk.frozen C20 2
        have u2 := Blk.cell C20 2
        have v3 := Blk.frozen C20 3
        have u3 := Blk.cell C20 3
        have ul := Blk.lt C20
        refine rdy 18 (fun K hK => ?_)
        go_simp
        have X7 := X20.st4 (c0 := (q.r.toNat : Int)) (c1 := (q.g.toNat : Int)) (c2 := (q.b.toNat : Int)) (c3 := (q.a.toNat : Int)) C20 (Nat.le_of_lt hq5)
        have F7 : FB (st4 w20 q5 (q.r.toNat : Int) (q.g.toNat : Int) (q.b.toNat : Int) (q.a.toNat : Int)) w.heap.size 0 0 0 := Blk.st4 F20 (Blk.ne_ F20 C20 (by decide))
        have E7 : FB (st4 w20 q5 (q.r.toNat : Int) (q.g.toNat : Int) (q.b.toNat : Int) (q.a.toNat : Int)) q6 0 0 0 := Blk.st4 E20 (Blk.ne_ E20 C20 (by decide))
        have C7 : Blk (st4 w20 q5 (q.r.toNat : Int) (q.g.toNat : Int) (q.b.toNat : Int) (q.a.toNat : Int)) q5 68 #[.int .u8 (q.r.toNat : Int), .int .u8 (q.g.toNat : Int), .int .u8 (q.b.toNat : Int), .int .u8 (q.a.toNat : Int)] := ((((Blk.set_ C20 0 _).set_ 1 _).set_ 2 _).set_ 3 _).eq_ (by simp)
        change K _ (st4 w20 q5 (q.r.toNat : Int) (q.g.toNat : Int) (q.b.toNat : Int) (q.a.toNat : Int))
        generalize st4 w20 q5 (q.r.toNat : Int) (q.g.toNat : Int) (q.b.toNat : Int) (q.a.toNat : Int) = w8 at X7 F7 E7 C7 ⊢
        refine hK.out _ _ X7.X.s14 ?_
        clear hK K hHeld
        intro hHeld
        (try simp only [sps])
        clear v0 v1 v2 v3 u0 u1 u2 u3 ul
        obtain ⟨u0, u1, u2, v0, v1, v2, ul⟩ := FB.all E7
        refine rdy 19 (fun K hK => ?_)
        go_simp
        have X8 := X7.st3 (u := .int .i64 (kk : Int)) (v := .int .i64 (ff : Int)) (e := .int .i64 (aa : Int)) E7 (Nat.le_of_lt hq6)
        have F8 : FB (st3 w8 q6 (.int .i64 (kk : Int)) (.int .i64 (ff : Int)) (.int .i64 (aa : Int))) w.heap.size 0 0 0 := Blk.st3 F7 (Nat.ne_of_lt hq6)
        have C8 : Blk (st3 w8 q6 (.int .i64 (kk : Int)) (.int .i64 (ff : Int)) (.int .i64 (aa : Int))) q5 68 #[.int .u8 (q.r.toNat : Int), .int .u8 (q.g.toNat : Int), .int .u8 (q.b.toNat : Int), .int .u8 (q.a.toNat : Int)] := Blk.st3 C7 (Blk.ne_ C7 E7 (by decide))
        have E8 : FB (st3 w8 q6 (.int .i64 (kk : Int)) (.int .i64 (ff : Int)) (.int .i64 (aa : Int))) q6 (kk : Int) (ff : Int) (aa : Int) := FB.st3 E7
        refine hK.out _ _ X8.X.s14 ?_
        clear hK K hHeld
        intro hHeld
        (try simp only [sps])
        refine wpAnyH_done (by kernel_rfl) ?_ _
        (try simp only [sps])
        go_wp2_with fail
        go_meet
        case rel => exact ⟨q5, q6, y2, a2, q, kk, ff, aa, rfl, rfl, Lib.hid ⟨X8, F8, C8, E8, hq5, hq6⟩, Lib.hid ⟨b2, hor⟩⟩
    · go_simp
      have X21 := XD.alloc (.cells #[.int .i64 0, .int .i64 0, .int .i64 0] 34)
      have F21 : FB (w2.alloc (.cells #[.int .i64 0, .int .i64 0, .int .i64 0] 34)) w.heap.size 0 0 0 := Blk.alloc FD _
      have E21 : FB (w2.alloc (.cells #[.int .i64 0, .int .i64 0, .int .i64 0] 34)) w2.heap.size 0 0 0 := Blk.new _ _ _
      have hq6 : w.heap.size < w2.heap.size := Blk.lt FD
      generalize w2.alloc (.cells #[.int .i64 0, .int .i64 0, .int .i64 0] 34) = w21 at X21 F21 E21 ⊢
      generalize w2.heap.size = q6 at E21 hq6 ⊢
      refine hK.out _ _ X21.X.s14 ?_
      clear hK K hHeld
      intro hHeld
      (try simp only [sps])
      refine wpAnyH_ready (rs := [12, 16]) (by kernel_rfl) (by simp) ?_
      refine AllReadyH.cons rfl (fun K hK => ?_) (AllReadyH.cons rfl (fun K hK => ?_) AllReadyH.nil)
      · go_simp
        obtain ⟨m0, TP0⟩ := X21.P.tp
        have HPX := tgaPixelU HH.out.1 TP0 HH.out.2.1 X21.ha X21.S X21.G X21.ok HH.out.2.2.1
        unfold tHdV at HPX
        refine HPX.mono ?_
        clear HPX TP0
        rintro e w22 ⟨y2, a2, q, kk, ff, aa, rfl, l2, ok2, b2, t2, s2, ha2, hor⟩
        have X22 := X21.read t2 s2 l2 ok2 ha2
        have F22 : FB w22 w.heap.size 0 0 0 := Blk.turn F21 t2 (by simp only [List.mem_cons, List.not_mem_nil, or_false, not_or]; exact ⟨Blk.ne_ F21 X21.S (by decide), Blk.ne_ F21 X21.G (by decide)⟩)
        have E22 : FB w22 q6 0 0 0 := Blk.turn E21 t2 (by simp only [List.mem_cons, List.not_mem_nil, or_false, not_or]; exact ⟨Blk.ne_ E21 X21.S (by decide), Blk.ne_ E21 X21.G (by decide)⟩)
        refine hK.out _ _ X22.X.s14 ?_
        clear hK K hHeld
        intro hHeld
        (try simp only [sps])
        refine tk 13 ?_
        (try simp only [sps])
        refine tk 14 ?_
        (try simp only [sps])
        refine tk 15 ?_
        (try simp only [sps])
        refine rdy 16 (fun K hK => ?_)
        go_simp
        have X23 := X22.alloc (.cells #[.int .u8 0, .int .u8 0, .int .u8 0, .int .u8 0] 68)
        have F23 : FB (w22.alloc (.cells #[.int .u8 0, .int .u8 0, .int .u8 0, .int .u8 0] 68)) w.heap.size 0 0 0 := Blk.alloc F22 _
        have E23 : FB (w22.alloc (.cells #[.int .u8 0, .int .u8 0, .int .u8 0, .int .u8 0] 68)) q6 0 0 0 := Blk.alloc E22 _
        have C23 : Blk (w22.alloc (.cells #[.int .u8 0, .int .u8 0, .int .u8 0, .int .u8 0] 68)) w22.heap.size 68 #[.int .u8 0, .int .u8 0, .int .u8 0, .int .u8 0] := Blk.new _ _ _
        have hq5 : w.heap.size < w22.heap.size := Blk.lt F22
        generalize w22.alloc (.cells #[.int .u8 0, .int .u8 0, .int .u8 0, .int .u8 0] 68) = w23 at X23 F23 E23 C23 ⊢
        generalize w22.heap.size = q5 at C23 hq5 ⊢
        refine hK.out _ _ X23.X.s14 ?_
        clear hK K hHeld
        intro hHeld
        (try simp only [sps])
        have v0 := Blk.frozen C23 0
        have u0 := Blk.cell C23 0
        have v1 := Blk.frozen C23 1
        have u1 := Blk.cell C23 1
        have v2 := Blk.frozen C23 2
        have u2 := Blk.cell C23 2
        have v3 := Blk.frozen C23 3
        have u3 := Blk.cell C23 3
        have ul := Blk.lt C23
        refine rdy 18 (fun K hK => ?_)
        go_simp
        have X7 := X23.st4 (c0 := (q.r.toNat : Int)) (c1 := (q.g.toNat : Int)) (c2 := (q.b.toNat : Int)) (c3 := (q.a.toNat : Int)) C23 (Nat.le_of_lt hq5)
        have F7 : FB (st4 w23 q5 (q.r.toNat : Int) (q.g.toNat : Int) (q.b.toNat : Int) (q.a.toNat : Int)) w.heap.size 0 0 0 := Blk.st4 F23 (Blk.ne_ F23 C23 (by decide))
        have E7 : FB (st4 w23 q5 (q.r.toNat : Int) (q.g.toNat : Int) (q.b.toNat : Int) (q.a.toNat : Int)) q6 0 0 0 := Blk.st4 E23 (Blk.ne_ E23 C23 (by decide))
        have C7 : Blk (st4 w23 q5 (q.r.toNat : Int) (q.g.toNat : Int) (q.b.toNat : Int) (q.a.toNat : Int)) q5 68 #[.int .u8 (q.r.toNat : Int), .int .u8 (q.g.toNat : Int), .int .u8 (q.b.toNat : Int), .int .u8 (q.a.toNat : Int)] := ((((Blk.set_ C23 0 _).set_ 1 _).set_ 2 _).set_ 3 _).eq_ (by simp)
        change K _ (st4 w23 q5 (q.r.toNat : Int) (q.g.toNat : Int) (q.b.toNat : Int) (q.a.toNat : Int))
        generalize st4 w23 q5 (q.r.toNat : Int) (q.g.toNat : Int) (q.b.toNat : Int) (q.a.toNat : Int) = w8 at X7 F7 E7 C7 ⊢
        refine hK.out _ _ X7.X.s14 ?_
        clear hK K hHeld
        intro hHeld
        (try simp only [sps])
        clear v0 v1 v2 v3 u0 u1 u2 u3 ul
        obtain ⟨u0, u1, u2, v0, v1, v2, ul⟩ := FB.all E7
        refine rdy 19 (fun K hK => ?_)
        go_simp
        have X8 := X7.st3 (u := .int .i64 (kk : Int)) (v := .int .i64 (ff : Int)) (e := .int .i64 (aa : Int)) E7 (Nat.le_of_lt hq6)
        have F8 : FB (st3 w8 q6 (.int .i64 (kk : Int)) (.int .i64 (ff : Int)) (.int .i64 (aa : Int))) w.heap.size 0 0 0 := Blk.st3 F7 (Nat.ne_of_lt hq6)
        have C8 : Blk (st3 w8 q6 (.int .i64 (kk : Int)) (.int .i64 (ff : Int)) (.int .i64 (aa : Int))) q5 68 #[.int .u8 (q.r.toNat : Int), .int .u8 (q.g.toNat : Int), .int .u8 (q.b.toNat : Int), .int .u8 (q.a.toNat : Int)] := Blk.st3 C7 (Blk.ne_ C7 E7 (by decide))
        have E8 : FB (st3 w8 q6 (.int .i64 (kk : Int)) (.int .i64 (ff : Int)) (.int .i64 (aa : Int))) q6 (kk : Int) (ff : Int) (aa : Int) := FB.st3 E7
        refine hK.out _ _ X8.X.s14 ?_
        clear hK K hHeld
        intro hHeld
        (try simp only [sps])
        refine wpAnyH_done (by kernel_rfl) ?_ _
        (try simp only [sps])
        go_wp2_with fail
        go_meet
        case rel => exact ⟨q5, q6, y2, a2, q, kk, ff, aa, rfl, rfl, Lib.hid ⟨X8, F8, C8, E8, hq5, hq6⟩, Lib.hid ⟨b2, hor⟩⟩
      · go_simp
        have X24 := X21.alloc (.cells #[.int .u8 0, .int .u8 0, .int .u8 0, .int .u8 0] 68)
        have F24 : FB (w21.alloc (.cells #[.int .u8 0, .int .u8 0, .int .u8 0, .int .u8 0] 68)) w.heap.size 0 0 0 := Blk.alloc F21 _
        have E24 : FB (w21.alloc (.cells #[.int .u8 0, .int .u8 0, .int .u8 0, .int .u8 0] 68)) q6 0 0 0 := Blk.alloc E21 _
        have C24 : Blk (w21.alloc (.cells #[.int .u8 0, .int .u8 0, .int .u8 0, .int .u8 0] 68)) w21.heap.size 68 #[.int .u8 0, .int .u8 0, .int .u8 0, .int .u8 0] := Blk.new _ _ _
        have hq5 : w.heap.size < w21.heap.size := Blk.lt F21
        generalize w21.alloc (.cells #[.int .u8 0, .int .u8 0, .int .u8 0, .int .u8 0] 68) = w24 at X24 F24 E24 C24 ⊢
        generalize w21.heap.size = q5 at C24 hq5 ⊢
        refine hK.out _ _ X24.X.s14 ?_
        clear hK K hHeld
        intro hHeld
        (try simp only [sps])
        refine rdy 12 (fun K hK => ?_)
        go_simp
        obtain ⟨m0, TP0⟩ := X24.P.tp
        have HPX := tgaPixelU HH.out.1 TP0 HH.out.2.1 X24.ha X24.S X24.G X24.ok HH.out.2.2.1
        unfold tHdV at HPX
        refine HPX.mono ?_
        clear HPX TP0
        rintro e w25 ⟨y2, a2, q, kk, ff, aa, rfl, l2, ok2, b2, t2, s2, ha2, hor⟩
        have X25 := X24.read t2 s2 l2 ok2 ha2
        have F25 : FB w25 w.heap.size 0 0 0 := Blk.turn F24 t2 (by simp only [List.mem_cons, List.not_mem_nil, or_false, not_or]; exact ⟨Blk.ne_ F24 X24.S (by decide), Blk.ne_ F24 X24.G (by decide)⟩)
        have C25 : Blk w25 q5 68 #[.int .u8 0, .int .u8 0, .int .u8 0, .int .u8 0] := Blk.turn C24 t2 (by simp only [List.mem_cons, List.not_mem_nil, or_false, not_or]; exact ⟨Blk.ne_ C24 X24.S (by decide), Blk.ne_ C24 X24.G (by decide)⟩)
        have E25 : FB w25 q6 0 0 0 := Blk.turn E24 t2 (by simp only [List.mem_cons, List.not_mem_nil, or_false, not_or]; exact ⟨Blk.ne_ E24 X24.S (by decide), Blk.ne_ E24 X24.G (by decide)⟩)
        refine hK.out _ _ X25.X.s14 ?_
        clear hK K hHeld
        intro hHeld
        (try simp only [sps])
        refine tk 13 ?_
        (try simp only [sps])
        refine tk 14 ?_
        (try simp only [sps])
        refine tk 15 ?_
        (try simp only [sps])
        have v0 := Blk.frozen C25 0
        have u0 := Blk.cell C25 0
        have v1 := Blk.frozen C25 1
        have u1 := Blk.cell C25 1
        have v2 := Blk.frozen C25 2
        have u2 := Blk.cell C25 2
        have v3 := Blk.frozen C25 3
        have u3 := Blk.cell C25 3
        have ul := Blk.lt C25
        refine rdy 18 (fun K hK => ?_)
        go_simp
        have X7 := X25.st4 (c0 := (q.r.toNat : Int)) (c1 := (q.g.toNat : Int)) (c2 := (q.b.toNat : Int)) (c3 := (q.a.toNat : Int)) C25 (Nat.le_of_lt hq5)
        have F7 : FB (st4 w25 q5 (q.r.toNat : Int) (q.g.toNat : Int) (q.b.toNat : Int) (q.a.toNat : Int)) w.heap.size 0 0 0 := Blk.st4 F25 (Blk.ne_ F25 C25 (by decide))
        have E7 : FB (st4 w25 q5 (q.r.toNat : Int) (q.g.toNat : Int) (q.b.toNat : Int) (q.a.toNat : Int)) q6 0 0 0 := Blk.st4 E25 (Blk.ne_ E25 C25 (by decide))
        have C7 : Blk (st4 w25 q5 (q.r.toNat : Int) (q.g.toNat : Int) (q.b.toNat : Int) (q.a.toNat : Int)) q5 68 #[.int .u8 (q.r.toNat : Int), .int .u8 (q.g.toNat : Int), .int .u8 (q.b.toNat : Int), .int .u8 (q.a.toNat : Int)] := ((((Blk.set_ C25 0 _).set_ 1 _).set_ 2 _).set_ 3 _).eq_ (by simp)
        change K _ (st4 w25 q5 (q.r.toNat : Int) (q.g.toNat : Int) (q.b.toNat : Int) (q.a.toNat : Int))
        generalize st4 w25 q5 (q.r.toNat : Int) (q.g.toNat : Int) (q.b.toNat : Int) (q.a.toNat : Int) = w8 at X7 F7 E7 C7 ⊢
        refine hK.out _ _ X7.X.s14 ?_
        clear hK K hHeld
        intro hHeld
        (try simp only [sps])
        clear v0 v1 v2 v3 u0 u1 u2 u3 ul
        obtain ⟨u0, u1, u2, v0, v1, v2, ul⟩ := FB.all E7
        refine rdy 19 (fun K hK => ?_)
        go_simp
        have X8 := X7.st3 (u := .int .i64 (kk : Int)) (v := .int .i64 (ff : Int)) (e := .int .i64 (aa : Int)) E7 (Nat.le_of_lt hq6)
        have F8 : FB (st3 w8 q6 (.int .i64 (kk : Int)) (.int .i64 (ff : Int)) (.int .i64 (aa : Int))) w.heap.size 0 0 0 := Blk.st3 F7 (Nat.ne_of_lt hq6)
        have C8 : Blk (st3 w8 q6 (.int .i64 (kk : Int)) (.int .i64 (ff : Int)) (.int .i64 (aa : Int))) q5 68 #[.int .u8 (q.r.toNat : Int), .int .u8 (q.g.toNat : Int), .int .u8 (q.b.toNat : Int), .int .u8 (q.a.toNat : Int)] := Blk.st3 C7 (Blk.ne_ C7 E7 (by decide))
        have E8 : FB (st3 w8 q6 (.int .i64 (kk : Int)) (.int .i64 (ff : Int)) (.int .i64 (aa : Int))) q6 (kk : Int) (ff : Int) (aa : Int) := FB.st3 E7
        refine hK.out _ _ X8.X.s14 ?_
        clear hK K hHeld
        intro hHeld
        (try simp only [sps])
        refine wpAnyH_done (by kernel_rfl) ?_ _
        (try simp only [sps])
        go_wp2_with fail
        go_meet
        case rel => exact ⟨q5, q6, y2, a2, q, kk, ff, aa, rfl, rfl, Lib.hid ⟨X8, F8, C8, E8, hq5, hq6⟩, Lib.hid ⟨b2, hor⟩⟩
  case rest =>
    obtain ⟨q5, q6, y', a', q, kk, ff, aa, rfl, rfl, HX, HY⟩ := hcut
    clear I1 F1
    obtain ⟨f0, f1, f2', z0, z1, z2, fl⟩ := FB.all HX.out.2.1
    obtain ⟨e0, e1, e2, ez0, ez1, ez2, el⟩ := FB.all HX.out.2.2.2.1
    have q0 := Blk.cell HX.out.2.2.1 0
    have q1 := Blk.cell HX.out.2.2.1 1
    have q2 := Blk.cell HX.out.2.2.1 2
    have q3 := Blk.cell HX.out.2.2.1 3
    have hne := Nat.ne_of_lt HX.out.2.2.2.2.2
    have hne' := hne.symm
    by_cases hk : kk = 0
    · have hkI : (kk : Int) = 0 := by omega
      rcases HY.out.2 with ⟨h1, _⟩ | ⟨_, h2, h3, yr, hrun⟩
      · exact absurd hk h1
      · have HRUN := Lib.hid hrun
        have HPU := Lib.hid (tgaPutC (q := q) (n := n) HH.out.1 HX.out.1.from_ yr HH.out.2.2.2.2)
        clear hrun yr h2 h3 hk
        go_wp2_with (go_at_call 199; have hU := HPU.out; unfold Qc.v at hU; refine hU.mono ?_; clear hU; rintro e w5 ⟨y5, L5, I5, b5, hor⟩; have J5 := I5.to_ HX.out.1.T; have F5 : FB w5 w.heap.size 0 0 0 := FB.turn HX.out.2.1 I5.T (by simp only [List.mem_cons, List.not_mem_nil, or_false, not_or]; exact ⟨Blk.ne_ HX.out.2.1 HX.out.1.S (by decide), Blk.ne_ HX.out.2.1 HX.out.1.G (by decide), Blk.ne_ HX.out.2.1 HX.out.1.X (by decide), Blk.ne_ HX.out.2.1 HX.out.1.D.row (by decide)⟩); clear f0 f1 f2' z0 z1 z2 fl e0 e1 e2 ez0 ez1 ez2 el q0 q1 q2 q3; obtain ⟨f0, f1, f2', z0, z1, z2, fl⟩ := FB.all F5; simp only [tFlt, tFlt0] at hor; rcases hor with ⟨rfl, yr5, hrun5⟩ | ⟨rfl, hL5, yr5, hrun5⟩)
        · exact bodyPost_ret (v := .agg #[.int .i64 4, .int .i64 2, .int .i64 (a' : Int)]) (by simp [results, Tryz.results179, go_sem, f0, f1, f2']) rfl ⟨y5, L5, a', 4, 2, a', rfl, J5.st3 F5 (Nat.le_refl _), b5.trans HY.out.1, .inl ⟨by decide, rfl, fun z k => by rw [HRUN.out]; exact hrun5 z _⟩⟩
        · exact bodyPost_ret (v := .agg #[.int .i64 0, .int .i64 0, .int .i64 0]) (by simp [results, Tryz.results179, go_sem, f0, f1, f2']) rfl ⟨y5, L5, a', 0, 0, 0, rfl, J5.st3 F5 (Nat.le_refl _), b5.trans HY.out.1, .inr ⟨rfl, rfl, rfl, by show L5.length = _; rw [hL5, List.length_append, List.length_replicate], yr5, fun z k => by rw [HRUN.out]; exact hrun5 z _⟩⟩
    · have hkI : ((kk : Int) != 0) = true := bne_iff_ne.2 (by omega)
      rcases HY.out.2 with ⟨_, h2, hrun⟩ | ⟨h1, _⟩
      · have HRUN := Lib.hid hrun
        have HKK := Lib.hid hk
        have H2 := Lib.hid h2
        clear hrun hk h2
        go_wp2_with fail
        exact bodyPost_ret (v := .agg #[.int .i64 (kk : Int), .int .i64 (ff : Int), .int .i64 (aa : Int)]) (by simp [results, Tryz.results179, go_sem, f0, f1, f2', e0, e1, e2]) rfl ⟨y', L, a', kk, ff, aa, rfl, HX.out.1.st3 HX.out.2.1 (Nat.le_refl _), HY.out.1, .inl ⟨HKK.out, H2.out, fun z k => HRUN.out z n L k⟩⟩
      · exact absurd h1 hk
end Go.Proofs.YtlehkgkomjojmaaGreat
