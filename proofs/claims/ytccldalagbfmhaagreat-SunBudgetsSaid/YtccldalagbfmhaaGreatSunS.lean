/- sun: the map and the rows. sun: the map and the rows, with a map. sun: a file is decoded. -/
import Derived.Test.YtccldalagbfmhaaGreatSunR
import Derived.Test.YtccldalagbfmhaaGreatSunE
import Derived.Test.YtccldalagbfmhaaGreatSunJ
import Derived.Defers
import Derived.Laws.EntriesVeiled
import Derived.Test.YtccldalagbfmhaaGreatRasWays
namespace Go.Proofs.YtccldalagbfmhaaGreat
open Go.RowKit
set_option linter.unusedVariables false
set_option linter.unusedSimpArgs false

theorem sunRowC {w : World} {p g x r b d z Y fn : Nat} {pk : Bool} {s : ByteArray} {h : SunHd} {lv : Value} {t : SunSt} {L : List Qc} {y : Led} (N : IsNext s h lv fn pk z) (hh : h.Ok) (hsm : s.size ≤ 1099511627776) (S0 : SrcAt w p g s 0 s.size t.a) (L0 : LedAt w g y) (X0 : SunX w p x h lv fn t) (R0 : RasAt w r g b (h.W : Int) (h.H : Int) true) (B0 : BufAt w b g d (pixL L (4 * (h.W * h.H)))) (M0 : MapAt w g s h lv (b, d)) (tok : t.Ok s) (ok : y.Ok) (hr : y.reason = 0) (hL : L.length = Y * h.W) (hY : Y < h.H) :
    Calls Tryz.prog 141 #[.pointer (some ⟨x, 0, none⟩), .pointer (some ⟨r, 0, none⟩), .int .i64 (Y : Int)] w fun e w' => RowPost w w' p g x r b d s h lv fn pk z t L y e := by
  rcases hh.d with h1 | h8 | h24 | h32
  · exact sunRow_bit N hh hsm h1 S0 L0 X0 R0 B0 M0 tok ok hr hL hY
  · exact sunRow_byte N hh hsm h8 S0 L0 X0 R0 B0 M0 tok ok hr hL hY
  · exact sunRow_many N hh hsm (.inl h24) S0 L0 X0 R0 B0 M0 tok ok hr hL hY
  · exact sunRow_many N hh hsm (.inr h32) S0 L0 X0 R0 B0 M0 tok ok hr hL hY
section
variable {w w' : World} {p b g d : Nat} {l : List UInt8}
theorem palFreeD {n m : Int} {x y : Led} {u : FrameMode} (h : PalAt w p b n m) (hm : BufAt w b g d l) (k : LedAt w g x) (ok : x.Ok) (e : x.give l.length = (y, true)) :
    CallsD Tryz.prog 99 #[.pointer (some ⟨p, 0, none⟩)] u w fun e u' w' => u' = u ∧ (e = .returned (.bool true) ∧ LedAt w' g y ∧ Turn [p, b, g] w w') := by
  have hpb : p ≠ b := Blk.ne_ h hm.blk (by decide)
  have hpd : p ≠ d := Blk.ne_ h hm.row (by decide)
  have hpg : p ≠ g := Blk.ne_ h k (by decide)
  have P1 := PalAt.zero h
  have M1 : BufAt ((w.setCell ⟨p, 1, none⟩ (.int .i64 0)).setCell ⟨p, 2, none⟩ (.int .i64 0)) b g d l := ⟨Blk.far (Blk.far hm.blk (p := ⟨p, 1, none⟩) hpb.symm _) (p := ⟨p, 2, none⟩) hpb.symm _, Blk.far (Blk.far hm.row (p := ⟨p, 1, none⟩) hpd.symm _) (p := ⟨p, 2, none⟩) hpd.symm _⟩
  have K1 : LedAt ((w.setCell ⟨p, 1, none⟩ (.int .i64 0)).setCell ⟨p, 2, none⟩ (.int .i64 0)) g x := Blk.far (Blk.far k (p := ⟨p, 1, none⟩) hpg.symm _) (p := ⟨p, 2, none⟩) hpg.symm _
  have T1 : Turn [p, b, g] w ((w.setCell ⟨p, 1, none⟩ (.int .i64 0)).setCell ⟨p, 2, none⟩ (.int .i64 0)) := ((Turn.refl _ _).set_ 1 _ (.inl (by simp))).set_ 2 _ (.inl (by simp))
  have HF := Lib.hid (bufFree_first M1 K1 ok e)
  have n1 := h.n_
  have n2 := h.m_
  have n0 := h.b_
  have z1 := Blk.frozen h 1
  have z2 := Blk.frozen h 2
  have HT := Lib.hid T1
  clear h hm k ok e M1 K1 P1 T1
  go_enter_d Tryz.func99, Tryz.ntmps99
  go_wp2_with (go_at_call 142; refine HF.out.mono ?_; rintro e w2 ⟨rfl, o2, l2, t2⟩)
  go_ret
  exact ⟨rfl, l2, HT.out.trans (t2.mono (by simp))⟩
end
section
variable {w0 w w' : World} {p g x r b d f : Nat} {s : ByteArray} {h : SunHd} {lv : Value} {fn : Nat} {t t' : SunSt} {Q Q' : List Qc} {y0 y y' : Led}
theorem RowI.row (I : RowI w0 w p g x r b d f s h lv fn t Q y0 y) (k : Turn [p, g, x, d] w w') (S' : SrcAt w' p g s 0 s.size t'.a) (L' : LedAt w' g y') (X' : SunX w' p x h lv fn t') (B' : BufAt w' b g d (pixL Q' (4 * (h.W * h.H)))) (ok' : t'.Ok s) (yok' : y'.Ok) (yr' : y'.reason = 0) (yb' : y'.bytes = y.bytes) : RowI w0 w' p g x r b d f s h lv fn t' Q' y0 y' := by
  obtain ⟨S, L, X, R, B, M, F, T, nf, ok, yok, yr, yb⟩ := I
  refine ⟨S', L', X', Blk.turn R k ?_, B', M.turn k ?_, F.turn k ?_, T.trans k, nf, ok', yok', yr', yb'.trans yb⟩
  · simp only [List.mem_cons, List.not_mem_nil, or_false, not_or]; exact ⟨Blk.ne_ R S (by decide), Blk.ne_ R L (by decide), Blk.ne_ R X (by decide), Blk.ne_ R B.row (by decide)⟩
  · intro l b' d' P hd
    have h1 := P.src S
    have h2 := P.led L
    have h3 := palX P X
    have h4 : l ≠ d ∧ b' ≠ d := by
      obtain ⟨k1, _, rest, k3, _⟩ := P
      exact ⟨Blk.ne_ k1 B.row (by decide), Blk.ne_ k3.blk B.row (by decide)⟩
    simp only [List.mem_cons, List.not_mem_nil, or_false, not_or]
    exact ⟨⟨h1.1, h2.1, h3.1, h4.1⟩, ⟨h1.2.1, h2.2.1, h3.2.1, h4.2⟩, ⟨h1.2.2, h2.2.2, h3.2.2, hd⟩⟩
  · simp only [List.mem_cons, List.not_mem_nil, or_false, not_or]; exact ⟨Blk.ne_ F S (by decide), Blk.ne_ F L (by decide), Blk.ne_ F X (by decide), Blk.ne_ F B.row (by decide)⟩
end
/-- what the reading of pixels leaves -/
def SpxPost (w w' : World) (p g r b d : Nat) (s : ByteArray) (h : SunHd) (y : Led) (e : Ending) : Prop :=
  ∃ y' L', LedAt w' g y' ∧ y'.Ok ∧ y'.bytes = y.bytes ∧ Turn [p, g, d] w w' ∧ BufAt w' b g d (pixL L' (4 * (h.W * h.H))) ∧ 4 * L'.length ≤ 4 * (h.W * h.H) ∧
    ((∃ kk aa : Nat, kk ≠ 0 ∧ e = .returned (fltV kk aa) ∧ (sunPix s h (4 * (h.W * h.H))).run y = ((y'.give ((4 * (h.W * h.H) : Nat) : Int)).1, .bad kk aa)) ∨
     (e = .returned flt0 ∧ L'.length = h.W * h.H ∧ (sunPix s h (4 * (h.W * h.H))).run y = (y', .img h.W h.H (flat L'))))
theorem leaves_none {P : Program} {fn : Func} {R : Ending → World → Prop} {a : Act} {w : World} {v : Value} (hd : a.defers = []) (hr : (results fn a.tmps).run P w = .ok v w) (hR : R (.returned v) w) : bodyPostD P fn R .ret a w := by
  show Leaves P fn a.tmps R a.defers .returning w
  rw [hd]
  exact ⟨v, hr, hR⟩
theorem leaves_one {P : Program} {fn : Func} {R : Ending → World → Prop} {a : Act} {w : World} {fv : Fn} {cap dargs args : Array Value} {f : FuncId} (hd : a.defers = [{ target := .fn fv cap, args := dargs }]) (hi : (invoke (.fn fv cap) dargs).run P w = .ok (.enter f args) w)
    (h : CallsD P f args .returning w fun e u' w' => u' = .returning ∧ ∃ v0, e = .returned v0 ∧ ∃ v, (results fn a.tmps).run P w' = .ok v w' ∧ R (.returned v) w') : bodyPostD P fn R .ret a w := by
  show Leaves P fn a.tmps R a.defers .returning w
  rw [hd]
  refine leaves_cons (by simp) hi (h.mono ?_)
  rintro e u' w' ⟨rfl, v0, rfl, v, h1, h2⟩
  exact ⟨v, h1, h2⟩
theorem RowI.mapRow {w0 w w' : World} {p g x r b d f : Nat} {s : ByteArray} {h : SunHd} {lv : Value} {fn : Nat} {t : SunSt} {Q : List Qc} {y0 y : Led} (I : RowI w0 w p g x r b d f s h lv fn t Q y0 y) (k : Turn [p, g, x, d] w w') : MapAt w' g s h lv (b, d) ∧ FB w' f 0 0 0 ∧ RasAt w' r g b (h.W : Int) (h.H : Int) true := by
  obtain ⟨S, L, X, R, B, M, F, T, nf, ok, yok, yr, yb⟩ := I
  refine ⟨M.turn k ?_, F.turn k ?_, Blk.turn R k ?_⟩
  · intro l b' d' P hd
    have h1 := P.src S
    have h2 := P.led L
    have h3 := palX P X
    have h4 : l ≠ d ∧ b' ≠ d := by
      obtain ⟨k1, _, rest, k3, _⟩ := P
      exact ⟨Blk.ne_ k1 B.row (by decide), Blk.ne_ k3.blk B.row (by decide)⟩
    simp only [List.mem_cons, List.not_mem_nil, or_false, not_or]
    exact ⟨⟨h1.1, h2.1, h3.1, h4.1⟩, ⟨h1.2.1, h2.2.1, h3.2.1, h4.2⟩, ⟨h1.2.2, h2.2.2, h3.2.2, hd⟩⟩
  · simp only [List.mem_cons, List.not_mem_nil, or_false, not_or]; exact ⟨Blk.ne_ F S (by decide), Blk.ne_ F L (by decide), Blk.ne_ F X (by decide), Blk.ne_ F B.row (by decide)⟩
  · simp only [List.mem_cons, List.not_mem_nil, or_false, not_or]; exact ⟨Blk.ne_ R S (by decide), Blk.ne_ R L (by decide), Blk.ne_ R X (by decide), Blk.ne_ R B.row (by decide)⟩
theorem RowI.pal {w0 w w' : World} {p g x r b d f l b' d' n : Nat} {s : ByteArray} {h : SunHd} {lv : Value} {fn : Nat} {t : SunSt} {Q L : List Qc} {y0 y : Led} (I : RowI w0 w p g x r b d f s h lv fn t Q y0 y) (k : Turn [p, g, x, d] w w') (P : PalHas w l b' g d' n L) (hd : d' ≠ d) : PalHas w' l b' g d' n L := by
  obtain ⟨S, L, X, R, B, M, F, T, nf, ok, yok, yr, yb⟩ := I
  have h1 := P.src S
  have h2 := P.led L
  have h3 := palX P X
  have h4 : l ≠ d ∧ b' ≠ d := by
    obtain ⟨k1, _, rest, k3, _⟩ := P
    exact ⟨Blk.ne_ k1 B.row (by decide), Blk.ne_ k3.blk B.row (by decide)⟩
  refine P.turn k ?_ ?_ ?_
  all_goals simp only [List.mem_cons, List.not_mem_nil, or_false, not_or]
  · exact ⟨h1.1, h2.1, h3.1, h4.1⟩
  · exact ⟨h1.2.1, h2.2.1, h3.2.1, h4.2⟩
  · exact ⟨h1.2.2, h2.2.2, h3.2.2, hd⟩
theorem turn_own {w0 w : World} {p g x d : Nat} (T : Turn [p, g, x, d] w0 w) (hx : w0.heap.size ≤ x) : Turn [p, g, d] w0 w := ⟨T.os, T.tape, T.output, T.size, fun i hi hn => T.block i hi (by simp only [List.mem_cons, List.not_mem_nil, or_false, not_or] at hn ⊢; exact ⟨hn.1, hn.2.1, by omega, hn.2.2⟩)⟩
set_option maxRecDepth 100000 in
set_option maxHeartbeats 4000000 in
theorem sunPixels_none2 {w : World} {p g r b d : Nat} {s : ByteArray} {h : SunHd} {y : Led} (hh : h.Ok) (hn : h.n = 0) (ht : h.typ = 2) (hsm : s.size ≤ 1099511627776) (h32 : 32 ≤ s.size) (S0 : SrcAt w p g s 0 s.size 32) (L0 : LedAt w g y) (R0 : RasAt w r g b (h.W : Int) (h.H : Int) true) (B0 : BufAt w b g d (pixL [] (4 * (h.W * h.H)))) (ok : y.Ok) (hr : y.reason = 0) (hzb : ((4 * (h.W * h.H) : Nat) : Int) ≤ y.bytes) :
    Calls Tryz.prog 62 #[.pointer (some ⟨p, 0, none⟩), sunPicV h, .pointer (some ⟨r, 0, none⟩)] w fun e w' => SpxPost w w' p g r b d s h y e := by
  have hmf : ∀ (fn : Fn) (first cap : Array Value) (w : World), (Instr.makeFunc fn first cap).run Tryz.prog w = .ok (.func fn first cap) w := fun _ _ _ _ => rfl
  have HH := Lib.hid hh
  have HSM := Lib.hid hsm
  have HS := Lib.hid S0
  have HL := Lib.hid L0
  have HR := Lib.hid R0
  have HB := Lib.hid B0
  have HOK := Lib.hid (And.intro ok hr)
  have HNN := Lib.hid hn
  have HTT := Lib.hid ht
  have H32 := Lib.hid h32
  have HZB := Lib.hid hzb
  unfold sunPicV
  have hn0 : (h.n : Int) = 0 := by omega
  have htI : (h.typ : Int) = 2 := by omega
  clear hh hn ht hsm h32 S0 L0 R0 B0 ok hr hzb
  rw [htI, hn0]
  go_enter_defers Tryz.func62, Tryz.ntmps62
  go_upto_region 11 with fail
  have x1 : Blk (((w.alloc (.cells #[.int .i64 (h.W : Int), .int .i64 (h.H : Int), .int .i64 (h.bits : Int), .int .i64 2, .int .i64 0] 97)).alloc (.cells #[.int .i64 0, .int .i64 0, .int .i64 0] 31)).alloc (.cells #[.pointer (some ⟨p, 0, none⟩), .int .i64 (h.W : Int), .int .i64 (h.H : Int), .int .i64 (h.bits : Int), .int .i64 2, .int .i64 0, .pointer none, .func (.func 139) #[.pointer (some ⟨w.heap.size + 1 + 1, 0, none⟩)] #[], .int .i64 0, .int .i64 0, .int .i64 0] 217)) (w.heap.size + 1 + 1) 217 #[.pointer (some ⟨p, 0, none⟩), .int .i64 (h.W : Int), .int .i64 (h.H : Int), .int .i64 (h.bits : Int), .int .i64 2, .int .i64 0, .pointer none, .func (.func 139) #[.pointer (some ⟨w.heap.size + 1 + 1, 0, none⟩)] #[], .int .i64 0, .int .i64 0, .int .i64 0] := Blk.new_at _ _ _ (sz2 _ _ _).symm
  have q1 : (((w.alloc (.cells #[.int .i64 (h.W : Int), .int .i64 (h.H : Int), .int .i64 (h.bits : Int), .int .i64 2, .int .i64 0] 97)).alloc (.cells #[.int .i64 0, .int .i64 0, .int .i64 0] 31)).alloc (.cells #[.pointer (some ⟨p, 0, none⟩), .int .i64 (h.W : Int), .int .i64 (h.H : Int), .int .i64 (h.bits : Int), .int .i64 2, .int .i64 0, .pointer none, .func (.func 139) #[.pointer (some ⟨w.heap.size + 1 + 1, 0, none⟩)] #[], .int .i64 0, .int .i64 0, .int .i64 0] 217)).cell? ⟨w.heap.size, 1, none⟩ = some (.int .i64 (h.H : Int)) := Blk.cell (Blk.alloc (Blk.alloc (Blk.new w _ _) _) _) 1
  have f1 : FB (((w.alloc (.cells #[.int .i64 (h.W : Int), .int .i64 (h.H : Int), .int .i64 (h.bits : Int), .int .i64 2, .int .i64 0] 97)).alloc (.cells #[.int .i64 0, .int .i64 0, .int .i64 0] 31)).alloc (.cells #[.pointer (some ⟨p, 0, none⟩), .int .i64 (h.W : Int), .int .i64 (h.H : Int), .int .i64 (h.bits : Int), .int .i64 2, .int .i64 0, .pointer none, .func (.func 139) #[.pointer (some ⟨w.heap.size + 1 + 1, 0, none⟩)] #[], .int .i64 0, .int .i64 0, .int .i64 0] 217)) (w.heap.size + 1) 0 0 0 := Blk.alloc (Blk.new_at _ _ _ (sz1 _ _).symm) _
  have T1 := (((Turn.refl [p, g, w.heap.size + 1 + 1, d] w).alloc (.cells #[.int .i64 (h.W : Int), .int .i64 (h.H : Int), .int .i64 (h.bits : Int), .int .i64 2, .int .i64 0] 97)).alloc (.cells #[.int .i64 0, .int .i64 0, .int .i64 0] 31)).alloc (.cells #[.pointer (some ⟨p, 0, none⟩), .int .i64 (h.W : Int), .int .i64 (h.H : Int), .int .i64 (h.bits : Int), .int .i64 2, .int .i64 0, .pointer none, .func (.func 139) #[.pointer (some ⟨w.heap.size + 1 + 1, 0, none⟩)] #[], .int .i64 0, .int .i64 0, .int .i64 0] 217)
  have I1 := RowI.mk (h := h) (fn := 139) (lv := .pointer none) (t := ⟨32, 0, 0, 0⟩) (Q := []) (y0 := y) (y := y) (s := s) (p := p) (g := g) (r := r) (b := b) (d := d) (Blk.alloc (Blk.alloc (Blk.alloc HS.out _) _) _) (Blk.alloc (Blk.alloc (Blk.alloc HL.out _) _) _) (x1.eq_ (by simp [sunXs, hn0, htI])) (Blk.alloc (Blk.alloc (Blk.alloc HR.out _) _) _) ⟨Blk.alloc (Blk.alloc (Blk.alloc HB.out.blk _) _) _, Blk.alloc (Blk.alloc (Blk.alloc HB.out.row _) _) _⟩ (.inl ⟨HNN.out, rfl⟩) f1 T1 (by omega) ⟨H32.out, Nat.zero_le _, by decide, by decide⟩ HOK.out.1 HOK.out.2 rfl
  have hnx : w.heap.size ≤ w.heap.size + 1 + 1 := by omega
  have hnf : w.heap.size ≤ w.heap.size + 1 := by omega
  generalize ((w.alloc (.cells #[.int .i64 (h.W : Int), .int .i64 (h.H : Int), .int .i64 (h.bits : Int), .int .i64 2, .int .i64 0] 97)).alloc (.cells #[.int .i64 0, .int .i64 0, .int .i64 0] 31)).alloc (.cells #[.pointer (some ⟨p, 0, none⟩), .int .i64 (h.W : Int), .int .i64 (h.H : Int), .int .i64 (h.bits : Int), .int .i64 2, .int .i64 0, .pointer none, .func (.func 139) #[.pointer (some ⟨w.heap.size + 1 + 1, 0, none⟩)] #[], .int .i64 0, .int .i64 0, .int .i64 0] 217) = w1 at I1 q1 x1 f1 T1 ⊢
  generalize w.heap.size + 1 + 1 = x at I1 hnx ⊢
  generalize w.heap.size + 1 = f at I1 hnf ⊢
  have HN : Hid (IsNext s h (.pointer none) 139 true (4 * (h.W * h.H))) := Lib.hid (isNext_packed HSM.out)
  have HST : Hid (RowI w w1 p g x r b d f s h (.pointer none) 139 ⟨32, 0, 0, 0⟩ [] y y ∧ ([] : List Qc).length = 0 * h.W ∧ (sunPix s h (4 * (h.W * h.H))).run y = (sunRows s true (4 * (h.W * h.H)) h 0 h.H ⟨32, 0, 0, 0⟩ []).run y) := Lib.hid ⟨I1, by simp, by unfold sunPix; rw [if_pos HNN.out, decide_eq_true HTT.out]⟩
  clear I1 x1 f1 T1 HS HL HR HB HOK H32
  go_wp2_with fail
  go_loopg [51] h.H (fun gh v wr => ∃ (i gk : Nat) (t' : SunSt) (y' : Led) (Q : List Qc), gk = gh ∧ i + gk = h.H ∧ v = .int .i64 (i : Int) ∧ Hid (RowI w wr p g x r b d f s h (.pointer none) 139 t' Q y y' ∧ Q.length = i * h.W ∧ (sunPix s h (4 * (h.W * h.H))).run y = (sunRows s true (4 * (h.W * h.H)) h 0 gk t' Q).run y'))
  case atStart => exact ⟨0, h.H, _, _, [], rfl, by omega, rfl, HST⟩
  case round =>
    obtain ⟨i, gk, t', y', Q, rfl, hi, rfl, hP⟩ := hrel
    obtain ⟨I, hQ, hrun⟩ := hP.out
    have HI := Lib.hid I
    have HQ := Lib.hid hQ
    have HRUN := Lib.hid hrun
    clear hP I hQ hrun HST
    by_cases hi4 : i < h.H
    · have hiI : (i : Int) < (h.H : Int) := by omega
      obtain ⟨gm, rfl⟩ : ∃ gm, gk = gm + 1 := ⟨gk - 1, by omega⟩
      have HIG := Lib.hid hi
      have HIW := Lib.hid hi4
      have HHI : (h.H : Int) ≤ 16384 := by have := HH.out.h2; omega
      clear hi hi4
      go_wp2_with (go_at_call 141; refine (sunRowC HN.out HH.out HSM.out HI.out.S HI.out.L HI.out.X HI.out.R HI.out.B HI.out.M HI.out.ok HI.out.yok HI.out.yr HQ.out HIW.out).mono ?_; rintro e w2 ⟨y2, L2, l2, ok2, b2, tn, B2, len2, hor⟩; obtain ⟨M2, FF, R2⟩ := HI.out.mapRow tn; have T2 := HI.out.T.trans tn; have HD := Lib.hid (And.intro l2 (And.intro B2 T2)); have HTN := Lib.hid tn; obtain ⟨f0, f1, f2', z0, z1, z2, fl⟩ := FB.all FF; have HM2 := Lib.hid M2; have HFF := Lib.hid FF; clear l2 B2 T2 tn R2 M2; simp only [fltV, flt0] at hor; rcases hor with ⟨kk, aa, hk, rfl, hno⟩ | ⟨t2, rfl, t2ok, yr2, s2, X2, hL2, hyes⟩; all_goals (try (have hkI : ¬ (kk : Int) = 0 := by omega)))
      · exact leaves_none rfl (v := fltV kk aa) (by have := Nat.ne_of_lt fl; simp [results, Tryz.results62, go_sem, f0, f1, f2', fltV, *]) ⟨y2, L2, Blk.alloc (Blk.st3 HD.out.1 (Blk.ne_ HD.out.1 FF (by decide))) _, ok2, b2.trans HI.out.yb, turn_own ((Turn.st3 HD.out.2.2 (.inr hnf)).alloc _) hnx, ⟨Blk.alloc (Blk.st3 HD.out.2.1.blk (Blk.ne_ HD.out.2.1.blk FF (by decide))) _, Blk.alloc (Blk.st3 HD.out.2.1.row (Blk.ne_ HD.out.2.1.row FF (by decide))) _⟩, len2, .inl ⟨kk, aa, hk, rfl, by rw [HRUN.out]; exact hno _⟩⟩
      · have HI2 := Lib.hid (HI.out.row HTN.out s2 HD.out.1 X2 HD.out.2.1 t2ok ok2 yr2 b2)
        clear f0 f1 f2' z0 z1 z2 fl s2 X2 FF
        go_roundg gm
        case measure => omega
        case rel => exact ⟨i + 1, gm, t2, y2, L2, rfl, by have := HIG.out; omega, by go_num, Lib.hid ⟨HI2.out.alloc _, by rw [hL2, HQ.out, Nat.succ_mul], by rw [HRUN.out]; exact hyes _⟩⟩
    · have hiH : i = h.H := by omega
      have hg0 : gk = 0 := by omega
      subst hg0
      have hiI : ¬ (i : Int) < (h.H : Int) := by omega
      have HLEN : Hid (Q.length = h.W * h.H) := Lib.hid (by rw [HQ.out, hiH, Nat.mul_comm])
      have HLE : Hid (4 * Q.length ≤ 4 * (h.W * h.H)) := Lib.hid (by rw [HLEN.out]; exact Nat.le_refl _)
      obtain ⟨f0, f1, f2', z0, z1, z2, fl⟩ := FB.all HI.out.F
      clear hi hi4 hiH
      go_wp2_with fail
      exact leaves_none rfl (v := flt0) (by simp [results, Tryz.results62, go_sem, f0, f1, f2', flt0]) ⟨y', Q, Blk.st3 HI.out.L (Blk.ne_ HI.out.L HI.out.F (by decide)), HI.out.yok, HI.out.yb, turn_own (Turn.st3 HI.out.T (.inr hnf)) hnx, ⟨Blk.st3 HI.out.B.blk (Blk.ne_ HI.out.B.blk HI.out.F (by decide)), Blk.st3 HI.out.B.row (Blk.ne_ HI.out.B.row HI.out.F (by decide))⟩, HLE.out, .inr ⟨rfl, HLEN.out, by rw [HRUN.out]; show (Dec.give 0 _).run y' = _; unfold Dec.run; rw [give_zero HI.out.yok.y0]; rfl⟩⟩
set_option maxRecDepth 100000 in
set_option maxHeartbeats 4000000 in
theorem sunPixels_none0 {w : World} {p g r b d : Nat} {s : ByteArray} {h : SunHd} {y : Led} (hh : h.Ok) (hn : h.n = 0) (ht : h.typ ≠ 2) (hsm : s.size ≤ 1099511627776) (h32 : 32 ≤ s.size) (S0 : SrcAt w p g s 0 s.size 32) (L0 : LedAt w g y) (R0 : RasAt w r g b (h.W : Int) (h.H : Int) true) (B0 : BufAt w b g d (pixL [] (4 * (h.W * h.H)))) (ok : y.Ok) (hr : y.reason = 0) (hzb : ((4 * (h.W * h.H) : Nat) : Int) ≤ y.bytes) :
    Calls Tryz.prog 62 #[.pointer (some ⟨p, 0, none⟩), sunPicV h, .pointer (some ⟨r, 0, none⟩)] w fun e w' => SpxPost w w' p g r b d s h y e := by
  have hmf : ∀ (fn : Fn) (first cap : Array Value) (w : World), (Instr.makeFunc fn first cap).run Tryz.prog w = .ok (.func fn first cap) w := fun _ _ _ _ => rfl
  have HH := Lib.hid hh
  have HSM := Lib.hid hsm
  have HS := Lib.hid S0
  have HL := Lib.hid L0
  have HR := Lib.hid R0
  have HB := Lib.hid B0
  have HOK := Lib.hid (And.intro ok hr)
  have HNN := Lib.hid hn
  have HTT := Lib.hid ht
  have H32 := Lib.hid h32
  have HZB := Lib.hid hzb
  unfold sunPicV
  have hn0 : (h.n : Int) = 0 := by omega
  have htI : ¬ (h.typ : Int) = 2 := by omega
  have htB : ((h.typ : Int) == 2) = false := by simpa using htI
  clear hh hn ht hsm h32 S0 L0 R0 B0 ok hr hzb
  rw [hn0]
  go_enter_defers Tryz.func62, Tryz.ntmps62
  go_upto_region 11 with fail
  have x1 : Blk (((w.alloc (.cells #[.int .i64 (h.W : Int), .int .i64 (h.H : Int), .int .i64 (h.bits : Int), .int .i64 (h.typ : Int), .int .i64 0] 97)).alloc (.cells #[.int .i64 0, .int .i64 0, .int .i64 0] 31)).alloc (.cells #[.pointer (some ⟨p, 0, none⟩), .int .i64 (h.W : Int), .int .i64 (h.H : Int), .int .i64 (h.bits : Int), .int .i64 (h.typ : Int), .int .i64 0, .pointer none, .func (.func 138) #[.pointer (some ⟨w.heap.size + 1 + 1, 0, none⟩)] #[], .int .i64 0, .int .i64 0, .int .i64 0] 217)) (w.heap.size + 1 + 1) 217 #[.pointer (some ⟨p, 0, none⟩), .int .i64 (h.W : Int), .int .i64 (h.H : Int), .int .i64 (h.bits : Int), .int .i64 (h.typ : Int), .int .i64 0, .pointer none, .func (.func 138) #[.pointer (some ⟨w.heap.size + 1 + 1, 0, none⟩)] #[], .int .i64 0, .int .i64 0, .int .i64 0] := Blk.new_at _ _ _ (sz2 _ _ _).symm
  have q1 : (((w.alloc (.cells #[.int .i64 (h.W : Int), .int .i64 (h.H : Int), .int .i64 (h.bits : Int), .int .i64 (h.typ : Int), .int .i64 0] 97)).alloc (.cells #[.int .i64 0, .int .i64 0, .int .i64 0] 31)).alloc (.cells #[.pointer (some ⟨p, 0, none⟩), .int .i64 (h.W : Int), .int .i64 (h.H : Int), .int .i64 (h.bits : Int), .int .i64 (h.typ : Int), .int .i64 0, .pointer none, .func (.func 138) #[.pointer (some ⟨w.heap.size + 1 + 1, 0, none⟩)] #[], .int .i64 0, .int .i64 0, .int .i64 0] 217)).cell? ⟨w.heap.size, 1, none⟩ = some (.int .i64 (h.H : Int)) := Blk.cell (Blk.alloc (Blk.alloc (Blk.new w _ _) _) _) 1
  have f1 : FB (((w.alloc (.cells #[.int .i64 (h.W : Int), .int .i64 (h.H : Int), .int .i64 (h.bits : Int), .int .i64 (h.typ : Int), .int .i64 0] 97)).alloc (.cells #[.int .i64 0, .int .i64 0, .int .i64 0] 31)).alloc (.cells #[.pointer (some ⟨p, 0, none⟩), .int .i64 (h.W : Int), .int .i64 (h.H : Int), .int .i64 (h.bits : Int), .int .i64 (h.typ : Int), .int .i64 0, .pointer none, .func (.func 138) #[.pointer (some ⟨w.heap.size + 1 + 1, 0, none⟩)] #[], .int .i64 0, .int .i64 0, .int .i64 0] 217)) (w.heap.size + 1) 0 0 0 := Blk.alloc (Blk.new_at _ _ _ (sz1 _ _).symm) _
  have T1 := (((Turn.refl [p, g, w.heap.size + 1 + 1, d] w).alloc (.cells #[.int .i64 (h.W : Int), .int .i64 (h.H : Int), .int .i64 (h.bits : Int), .int .i64 (h.typ : Int), .int .i64 0] 97)).alloc (.cells #[.int .i64 0, .int .i64 0, .int .i64 0] 31)).alloc (.cells #[.pointer (some ⟨p, 0, none⟩), .int .i64 (h.W : Int), .int .i64 (h.H : Int), .int .i64 (h.bits : Int), .int .i64 (h.typ : Int), .int .i64 0, .pointer none, .func (.func 138) #[.pointer (some ⟨w.heap.size + 1 + 1, 0, none⟩)] #[], .int .i64 0, .int .i64 0, .int .i64 0] 217)
  have I1 := RowI.mk (h := h) (fn := 138) (lv := .pointer none) (t := ⟨32, 0, 0, 0⟩) (Q := []) (y0 := y) (y := y) (s := s) (p := p) (g := g) (r := r) (b := b) (d := d) (Blk.alloc (Blk.alloc (Blk.alloc HS.out _) _) _) (Blk.alloc (Blk.alloc (Blk.alloc HL.out _) _) _) (x1.eq_ (by simp [sunXs, hn0, htI])) (Blk.alloc (Blk.alloc (Blk.alloc HR.out _) _) _) ⟨Blk.alloc (Blk.alloc (Blk.alloc HB.out.blk _) _) _, Blk.alloc (Blk.alloc (Blk.alloc HB.out.row _) _) _⟩ (.inl ⟨HNN.out, rfl⟩) f1 T1 (by omega) ⟨H32.out, Nat.zero_le _, by decide, by decide⟩ HOK.out.1 HOK.out.2 rfl
  have hnx : w.heap.size ≤ w.heap.size + 1 + 1 := by omega
  have hnf : w.heap.size ≤ w.heap.size + 1 := by omega
  generalize ((w.alloc (.cells #[.int .i64 (h.W : Int), .int .i64 (h.H : Int), .int .i64 (h.bits : Int), .int .i64 (h.typ : Int), .int .i64 0] 97)).alloc (.cells #[.int .i64 0, .int .i64 0, .int .i64 0] 31)).alloc (.cells #[.pointer (some ⟨p, 0, none⟩), .int .i64 (h.W : Int), .int .i64 (h.H : Int), .int .i64 (h.bits : Int), .int .i64 (h.typ : Int), .int .i64 0, .pointer none, .func (.func 138) #[.pointer (some ⟨w.heap.size + 1 + 1, 0, none⟩)] #[], .int .i64 0, .int .i64 0, .int .i64 0] 217) = w1 at I1 q1 x1 f1 T1 ⊢
  generalize w.heap.size + 1 + 1 = x at I1 hnx ⊢
  generalize w.heap.size + 1 = f at I1 hnf ⊢
  have HN : Hid (IsNext s h (.pointer none) 138 false (4 * (h.W * h.H))) := Lib.hid (isNext_plain HSM.out)
  have HST : Hid (RowI w w1 p g x r b d f s h (.pointer none) 138 ⟨32, 0, 0, 0⟩ [] y y ∧ ([] : List Qc).length = 0 * h.W ∧ (sunPix s h (4 * (h.W * h.H))).run y = (sunRows s false (4 * (h.W * h.H)) h 0 h.H ⟨32, 0, 0, 0⟩ []).run y) := Lib.hid ⟨I1, by simp, by unfold sunPix; rw [if_pos HNN.out, decide_eq_false HTT.out]⟩
  clear I1 x1 f1 T1 HS HL HR HB HOK H32
  go_wp2_with fail
  go_loopg [51] h.H (fun gh v wr => ∃ (i gk : Nat) (t' : SunSt) (y' : Led) (Q : List Qc), gk = gh ∧ i + gk = h.H ∧ v = .int .i64 (i : Int) ∧ Hid (RowI w wr p g x r b d f s h (.pointer none) 138 t' Q y y' ∧ Q.length = i * h.W ∧ (sunPix s h (4 * (h.W * h.H))).run y = (sunRows s false (4 * (h.W * h.H)) h 0 gk t' Q).run y'))
  case atStart => exact ⟨0, h.H, _, _, [], rfl, by omega, rfl, HST⟩
  case round =>
    obtain ⟨i, gk, t', y', Q, rfl, hi, rfl, hP⟩ := hrel
    obtain ⟨I, hQ, hrun⟩ := hP.out
    have HI := Lib.hid I
    have HQ := Lib.hid hQ
    have HRUN := Lib.hid hrun
    clear hP I hQ hrun HST
    by_cases hi4 : i < h.H
    · have hiI : (i : Int) < (h.H : Int) := by omega
      obtain ⟨gm, rfl⟩ : ∃ gm, gk = gm + 1 := ⟨gk - 1, by omega⟩
      have HIG := Lib.hid hi
      have HIW := Lib.hid hi4
      have HHI : (h.H : Int) ≤ 16384 := by have := HH.out.h2; omega
      clear hi hi4
      go_wp2_with (go_at_call 141; refine (sunRowC HN.out HH.out HSM.out HI.out.S HI.out.L HI.out.X HI.out.R HI.out.B HI.out.M HI.out.ok HI.out.yok HI.out.yr HQ.out HIW.out).mono ?_; rintro e w2 ⟨y2, L2, l2, ok2, b2, tn, B2, len2, hor⟩; obtain ⟨M2, FF, R2⟩ := HI.out.mapRow tn; have T2 := HI.out.T.trans tn; have HD := Lib.hid (And.intro l2 (And.intro B2 T2)); have HTN := Lib.hid tn; obtain ⟨f0, f1, f2', z0, z1, z2, fl⟩ := FB.all FF; have HM2 := Lib.hid M2; have HFF := Lib.hid FF; clear l2 B2 T2 tn R2 M2; simp only [fltV, flt0] at hor; rcases hor with ⟨kk, aa, hk, rfl, hno⟩ | ⟨t2, rfl, t2ok, yr2, s2, X2, hL2, hyes⟩; all_goals (try (have hkI : ¬ (kk : Int) = 0 := by omega)))
      · exact leaves_none rfl (v := fltV kk aa) (by have := Nat.ne_of_lt fl; simp [results, Tryz.results62, go_sem, f0, f1, f2', fltV, *]) ⟨y2, L2, Blk.alloc (Blk.st3 HD.out.1 (Blk.ne_ HD.out.1 FF (by decide))) _, ok2, b2.trans HI.out.yb, turn_own ((Turn.st3 HD.out.2.2 (.inr hnf)).alloc _) hnx, ⟨Blk.alloc (Blk.st3 HD.out.2.1.blk (Blk.ne_ HD.out.2.1.blk FF (by decide))) _, Blk.alloc (Blk.st3 HD.out.2.1.row (Blk.ne_ HD.out.2.1.row FF (by decide))) _⟩, len2, .inl ⟨kk, aa, hk, rfl, by rw [HRUN.out]; exact hno _⟩⟩
      · have HI2 := Lib.hid (HI.out.row HTN.out s2 HD.out.1 X2 HD.out.2.1 t2ok ok2 yr2 b2)
        clear f0 f1 f2' z0 z1 z2 fl s2 X2 FF
        go_roundg gm
        case measure => omega
        case rel => exact ⟨i + 1, gm, t2, y2, L2, rfl, by have := HIG.out; omega, by go_num, Lib.hid ⟨HI2.out.alloc _, by rw [hL2, HQ.out, Nat.succ_mul], by rw [HRUN.out]; exact hyes _⟩⟩
    · have hiH : i = h.H := by omega
      have hg0 : gk = 0 := by omega
      subst hg0
      have hiI : ¬ (i : Int) < (h.H : Int) := by omega
      have HLEN : Hid (Q.length = h.W * h.H) := Lib.hid (by rw [HQ.out, hiH, Nat.mul_comm])
      have HLE : Hid (4 * Q.length ≤ 4 * (h.W * h.H)) := Lib.hid (by rw [HLEN.out]; exact Nat.le_refl _)
      obtain ⟨f0, f1, f2', z0, z1, z2, fl⟩ := FB.all HI.out.F
      clear hi hi4 hiH
      go_wp2_with fail
      exact leaves_none rfl (v := flt0) (by simp [results, Tryz.results62, go_sem, f0, f1, f2', flt0]) ⟨y', Q, Blk.st3 HI.out.L (Blk.ne_ HI.out.L HI.out.F (by decide)), HI.out.yok, HI.out.yb, turn_own (Turn.st3 HI.out.T (.inr hnf)) hnx, ⟨Blk.st3 HI.out.B.blk (Blk.ne_ HI.out.B.blk HI.out.F (by decide)), Blk.st3 HI.out.B.row (Blk.ne_ HI.out.B.row HI.out.F (by decide))⟩, HLE.out, .inr ⟨rfl, HLEN.out, by rw [HRUN.out]; show (Dec.give 0 _).run y' = _; unfold Dec.run; rw [give_zero HI.out.yok.y0]; rfl⟩⟩
end Go.Proofs.YtccldalagbfmhaaGreat
namespace Go.Proofs.YtccldalagbfmhaaGreat
open Go.RowKit
set_option linter.unusedVariables false
set_option linter.unusedSimpArgs false

set_option maxRecDepth 100000 in
set_option maxHeartbeats 4000000 in
theorem sunPixels_map2 {w : World} {p g r b d : Nat} {s : ByteArray} {h : SunHd} {y : Led} (hh : h.Ok) (hn : 0 < h.n) (ht : h.typ = 2) (hsm : s.size ≤ 1099511627776) (h32 : 32 ≤ s.size) (S0 : SrcAt w p g s 0 s.size 32) (L0 : LedAt w g y) (R0 : RasAt w r g b (h.W : Int) (h.H : Int) true) (B0 : BufAt w b g d (pixL [] (4 * (h.W * h.H)))) (ok : y.Ok) (hr : y.reason = 0) (hzb : ((4 * (h.W * h.H) : Nat) : Int) ≤ y.bytes) :
    Calls Tryz.prog 62 #[.pointer (some ⟨p, 0, none⟩), sunPicV h, .pointer (some ⟨r, 0, none⟩)] w fun e w' => SpxPost w w' p g r b d s h y e := by
  have hmf : ∀ (fn : Fn) (first cap : Array Value) (w : World), (Instr.makeFunc fn first cap).run Tryz.prog w = .ok (.func fn first cap) w := fun _ _ _ _ => rfl
  have HH := Lib.hid hh
  have HSM := Lib.hid hsm
  have HS := Lib.hid S0
  have HL := Lib.hid L0
  have HR := Lib.hid R0
  have HB := Lib.hid B0
  have HOK := Lib.hid (And.intro ok hr)
  have HNN := Lib.hid hn
  have HTT := Lib.hid ht
  have H32 := Lib.hid h32
  have HZB := Lib.hid hzb
  unfold sunPicV
  have hn0 : (0 : Int) < (h.n : Int) := by omega
  have hnI : (h.n : Int) ≤ 256 := by have := hh.n; omega
  have htI : (h.typ : Int) = 2 := by omega
  have hpw := Blk.lt S0
  have hbw := Blk.lt B0.blk
  have hdw := Blk.lt B0.row
  clear hh hn ht hsm h32 S0 L0 R0 B0 ok hr hzb
  rw [htI]
  go_enter_defers Tryz.func62, Tryz.ntmps62
  go_upto_region 7 with fail
  have x1 : Blk ((((w.alloc (.cells #[.int .i64 (h.W : Int), .int .i64 (h.H : Int), .int .i64 (h.bits : Int), .int .i64 2, .int .i64 (h.n : Int)] 97)).alloc (.cells #[.int .i64 0, .int .i64 0, .int .i64 0] 31)).alloc (.cells #[.pointer (some ⟨p, 0, none⟩), .int .i64 (h.W : Int), .int .i64 (h.H : Int), .int .i64 (h.bits : Int), .int .i64 2, .int .i64 (h.n : Int), .pointer none, .func (.func 139) #[.pointer (some ⟨w.heap.size + 1 + 1, 0, none⟩)] #[], .int .i64 0, .int .i64 0, .int .i64 0] 217)).alloc (.cells #[.int .i64 0, .int .i64 0, .int .i64 0] 31)) (w.heap.size + 1 + 1) 217 #[.pointer (some ⟨p, 0, none⟩), .int .i64 (h.W : Int), .int .i64 (h.H : Int), .int .i64 (h.bits : Int), .int .i64 2, .int .i64 (h.n : Int), .pointer none, .func (.func 139) #[.pointer (some ⟨w.heap.size + 1 + 1, 0, none⟩)] #[], .int .i64 0, .int .i64 0, .int .i64 0] := Blk.alloc (Blk.new_at _ _ _ (sz2 _ _ _).symm) _
  have X1 : SunX ((((w.alloc (.cells #[.int .i64 (h.W : Int), .int .i64 (h.H : Int), .int .i64 (h.bits : Int), .int .i64 2, .int .i64 (h.n : Int)] 97)).alloc (.cells #[.int .i64 0, .int .i64 0, .int .i64 0] 31)).alloc (.cells #[.pointer (some ⟨p, 0, none⟩), .int .i64 (h.W : Int), .int .i64 (h.H : Int), .int .i64 (h.bits : Int), .int .i64 2, .int .i64 (h.n : Int), .pointer none, .func (.func 139) #[.pointer (some ⟨w.heap.size + 1 + 1, 0, none⟩)] #[], .int .i64 0, .int .i64 0, .int .i64 0] 217)).alloc (.cells #[.int .i64 0, .int .i64 0, .int .i64 0] 31)) p (w.heap.size + 1 + 1) h (.pointer none) 139 ⟨32, 0, 0, 0⟩ := x1.eq_ (by simp [sunXs, htI])
  have qb : Blk ((((w.alloc (.cells #[.int .i64 (h.W : Int), .int .i64 (h.H : Int), .int .i64 (h.bits : Int), .int .i64 2, .int .i64 (h.n : Int)] 97)).alloc (.cells #[.int .i64 0, .int .i64 0, .int .i64 0] 31)).alloc (.cells #[.pointer (some ⟨p, 0, none⟩), .int .i64 (h.W : Int), .int .i64 (h.H : Int), .int .i64 (h.bits : Int), .int .i64 2, .int .i64 (h.n : Int), .pointer none, .func (.func 139) #[.pointer (some ⟨w.heap.size + 1 + 1, 0, none⟩)] #[], .int .i64 0, .int .i64 0, .int .i64 0] 217)).alloc (.cells #[.int .i64 0, .int .i64 0, .int .i64 0] 31)) w.heap.size 97 #[.int .i64 (h.W : Int), .int .i64 (h.H : Int), .int .i64 (h.bits : Int), .int .i64 2, .int .i64 (h.n : Int)] := Blk.alloc (Blk.alloc (Blk.alloc (Blk.new w _ _) _) _) _
  have f1 : FB ((((w.alloc (.cells #[.int .i64 (h.W : Int), .int .i64 (h.H : Int), .int .i64 (h.bits : Int), .int .i64 2, .int .i64 (h.n : Int)] 97)).alloc (.cells #[.int .i64 0, .int .i64 0, .int .i64 0] 31)).alloc (.cells #[.pointer (some ⟨p, 0, none⟩), .int .i64 (h.W : Int), .int .i64 (h.H : Int), .int .i64 (h.bits : Int), .int .i64 2, .int .i64 (h.n : Int), .pointer none, .func (.func 139) #[.pointer (some ⟨w.heap.size + 1 + 1, 0, none⟩)] #[], .int .i64 0, .int .i64 0, .int .i64 0] 217)).alloc (.cells #[.int .i64 0, .int .i64 0, .int .i64 0] 31)) (w.heap.size + 1) 0 0 0 := Blk.alloc (Blk.alloc (Blk.new_at _ _ _ (sz1 _ _).symm) _) _
  have g1 : FB ((((w.alloc (.cells #[.int .i64 (h.W : Int), .int .i64 (h.H : Int), .int .i64 (h.bits : Int), .int .i64 2, .int .i64 (h.n : Int)] 97)).alloc (.cells #[.int .i64 0, .int .i64 0, .int .i64 0] 31)).alloc (.cells #[.pointer (some ⟨p, 0, none⟩), .int .i64 (h.W : Int), .int .i64 (h.H : Int), .int .i64 (h.bits : Int), .int .i64 2, .int .i64 (h.n : Int), .pointer none, .func (.func 139) #[.pointer (some ⟨w.heap.size + 1 + 1, 0, none⟩)] #[], .int .i64 0, .int .i64 0, .int .i64 0] 217)).alloc (.cells #[.int .i64 0, .int .i64 0, .int .i64 0] 31)) (w.heap.size + 1 + 1 + 1) 0 0 0 := Blk.new_at _ _ _ (by simp)
  have S1 : SrcAt ((((w.alloc (.cells #[.int .i64 (h.W : Int), .int .i64 (h.H : Int), .int .i64 (h.bits : Int), .int .i64 2, .int .i64 (h.n : Int)] 97)).alloc (.cells #[.int .i64 0, .int .i64 0, .int .i64 0] 31)).alloc (.cells #[.pointer (some ⟨p, 0, none⟩), .int .i64 (h.W : Int), .int .i64 (h.H : Int), .int .i64 (h.bits : Int), .int .i64 2, .int .i64 (h.n : Int), .pointer none, .func (.func 139) #[.pointer (some ⟨w.heap.size + 1 + 1, 0, none⟩)] #[], .int .i64 0, .int .i64 0, .int .i64 0] 217)).alloc (.cells #[.int .i64 0, .int .i64 0, .int .i64 0] 31)) p g s 0 s.size 32 := Blk.alloc (Blk.alloc (Blk.alloc (Blk.alloc HS.out _) _) _) _
  have L1 : LedAt ((((w.alloc (.cells #[.int .i64 (h.W : Int), .int .i64 (h.H : Int), .int .i64 (h.bits : Int), .int .i64 2, .int .i64 (h.n : Int)] 97)).alloc (.cells #[.int .i64 0, .int .i64 0, .int .i64 0] 31)).alloc (.cells #[.pointer (some ⟨p, 0, none⟩), .int .i64 (h.W : Int), .int .i64 (h.H : Int), .int .i64 (h.bits : Int), .int .i64 2, .int .i64 (h.n : Int), .pointer none, .func (.func 139) #[.pointer (some ⟨w.heap.size + 1 + 1, 0, none⟩)] #[], .int .i64 0, .int .i64 0, .int .i64 0] 217)).alloc (.cells #[.int .i64 0, .int .i64 0, .int .i64 0] 31)) g y := Blk.alloc (Blk.alloc (Blk.alloc (Blk.alloc HL.out _) _) _) _
  have R1 : RasAt ((((w.alloc (.cells #[.int .i64 (h.W : Int), .int .i64 (h.H : Int), .int .i64 (h.bits : Int), .int .i64 2, .int .i64 (h.n : Int)] 97)).alloc (.cells #[.int .i64 0, .int .i64 0, .int .i64 0] 31)).alloc (.cells #[.pointer (some ⟨p, 0, none⟩), .int .i64 (h.W : Int), .int .i64 (h.H : Int), .int .i64 (h.bits : Int), .int .i64 2, .int .i64 (h.n : Int), .pointer none, .func (.func 139) #[.pointer (some ⟨w.heap.size + 1 + 1, 0, none⟩)] #[], .int .i64 0, .int .i64 0, .int .i64 0] 217)).alloc (.cells #[.int .i64 0, .int .i64 0, .int .i64 0] 31)) r g b (h.W : Int) (h.H : Int) true := Blk.alloc (Blk.alloc (Blk.alloc (Blk.alloc HR.out _) _) _) _
  have B1 : BufAt ((((w.alloc (.cells #[.int .i64 (h.W : Int), .int .i64 (h.H : Int), .int .i64 (h.bits : Int), .int .i64 2, .int .i64 (h.n : Int)] 97)).alloc (.cells #[.int .i64 0, .int .i64 0, .int .i64 0] 31)).alloc (.cells #[.pointer (some ⟨p, 0, none⟩), .int .i64 (h.W : Int), .int .i64 (h.H : Int), .int .i64 (h.bits : Int), .int .i64 2, .int .i64 (h.n : Int), .pointer none, .func (.func 139) #[.pointer (some ⟨w.heap.size + 1 + 1, 0, none⟩)] #[], .int .i64 0, .int .i64 0, .int .i64 0] 217)).alloc (.cells #[.int .i64 0, .int .i64 0, .int .i64 0] 31)) b g d (pixL [] (4 * (h.W * h.H))) := ⟨Blk.alloc (Blk.alloc (Blk.alloc (Blk.alloc HB.out.blk _) _) _) _, Blk.alloc (Blk.alloc (Blk.alloc (Blk.alloc HB.out.row _) _) _) _⟩
  have T1 : Turn [p, g, w.heap.size + 1 + 1, d] w ((((w.alloc (.cells #[.int .i64 (h.W : Int), .int .i64 (h.H : Int), .int .i64 (h.bits : Int), .int .i64 2, .int .i64 (h.n : Int)] 97)).alloc (.cells #[.int .i64 0, .int .i64 0, .int .i64 0] 31)).alloc (.cells #[.pointer (some ⟨p, 0, none⟩), .int .i64 (h.W : Int), .int .i64 (h.H : Int), .int .i64 (h.bits : Int), .int .i64 2, .int .i64 (h.n : Int), .pointer none, .func (.func 139) #[.pointer (some ⟨w.heap.size + 1 + 1, 0, none⟩)] #[], .int .i64 0, .int .i64 0, .int .i64 0] 217)).alloc (.cells #[.int .i64 0, .int .i64 0, .int .i64 0] 31)) := ((((Turn.refl _ w).alloc _).alloc _).alloc _).alloc _
  have hnx : w.heap.size ≤ w.heap.size + 1 + 1 := by omega
  have hnf : w.heap.size ≤ w.heap.size + 1 := by omega
  have hn8 : w.heap.size ≤ w.heap.size + 1 + 1 + 1 := by omega
  have hws : w.heap.size ≤ (((((w.alloc (.cells #[.int .i64 (h.W : Int), .int .i64 (h.H : Int), .int .i64 (h.bits : Int), .int .i64 2, .int .i64 (h.n : Int)] 97)).alloc (.cells #[.int .i64 0, .int .i64 0, .int .i64 0] 31)).alloc (.cells #[.pointer (some ⟨p, 0, none⟩), .int .i64 (h.W : Int), .int .i64 (h.H : Int), .int .i64 (h.bits : Int), .int .i64 2, .int .i64 (h.n : Int), .pointer none, .func (.func 139) #[.pointer (some ⟨w.heap.size + 1 + 1, 0, none⟩)] #[], .int .i64 0, .int .i64 0, .int .i64 0] 217)).alloc (.cells #[.int .i64 0, .int .i64 0, .int .i64 0] 31))).heap.size := T1.size
  have k1 : w.heap.size + 1 ≠ w.heap.size + 1 + 1 + 1 := by omega
  generalize ((((w.alloc (.cells #[.int .i64 (h.W : Int), .int .i64 (h.H : Int), .int .i64 (h.bits : Int), .int .i64 2, .int .i64 (h.n : Int)] 97)).alloc (.cells #[.int .i64 0, .int .i64 0, .int .i64 0] 31)).alloc (.cells #[.pointer (some ⟨p, 0, none⟩), .int .i64 (h.W : Int), .int .i64 (h.H : Int), .int .i64 (h.bits : Int), .int .i64 2, .int .i64 (h.n : Int), .pointer none, .func (.func 139) #[.pointer (some ⟨w.heap.size + 1 + 1, 0, none⟩)] #[], .int .i64 0, .int .i64 0, .int .i64 0] 217)).alloc (.cells #[.int .i64 0, .int .i64 0, .int .i64 0] 31)) = w1 at x1 X1 qb f1 g1 S1 L1 R1 B1 T1 hws ⊢
  generalize w.heap.size + 1 + 1 + 1 = f8 at g1 hn8 k1 ⊢
  generalize w.heap.size + 1 + 1 = x at x1 X1 T1 hnx ⊢
  generalize w.heap.size + 1 = f at f1 hnf k1 ⊢
  have k2 := k1.symm
  have k3 : x ≠ f := Blk.ne_ X1 f1 (by decide)
  have k4 := k3.symm
  have k5 : x ≠ f8 := Blk.ne_ X1 g1 (by decide)
  have k6 := k5.symm
  have k7 : w.heap.size ≠ x := Blk.ne_ qb X1 (by decide)
  have k8 : w.heap.size ≠ f8 := Blk.ne_ qb g1 (by decide)
  have HN : ∀ l : Nat, Hid (IsNext s h (.pointer (some ⟨l, 0, none⟩)) 139 true (4 * (h.W * h.H) + 4 * h.n)) := fun l => Lib.hid (isNext_packed HSM.out)
  have q1 := Blk.cell qb 1
  have q4 := Blk.cell qb 4
  have HQB := Lib.hid qb
  have HX1 := Lib.hid X1
  have HF1 := Lib.hid f1
  have HG1 := Lib.hid g1
  have HR1 := Lib.hid (And.intro R1 (And.intro B1 T1))
  have HTB := Lib.hid (sunTableC HH.out HNN.out HSM.out H32.out S1 L1 HOK.out.1 HOK.out.2)
  have HSL := Lib.hid (And.intro S1 L1)
  have hpg : p ≠ g := Blk.ne_ S1 L1 (by decide)
  have m1 : x ∉ [p, g] := by simp only [List.mem_cons, List.not_mem_nil, or_false, not_or]; exact ⟨Blk.ne_ X1 S1 (by decide), Blk.ne_ X1 L1 (by decide)⟩
  have m2 : f ∉ [p, g] := by simp only [List.mem_cons, List.not_mem_nil, or_false, not_or]; exact ⟨Blk.ne_ f1 S1 (by decide), Blk.ne_ f1 L1 (by decide)⟩
  have m3 : f8 ∉ [p, g] := by simp only [List.mem_cons, List.not_mem_nil, or_false, not_or]; exact ⟨Blk.ne_ g1 S1 (by decide), Blk.ne_ g1 L1 (by decide)⟩
  have m4 : r ∉ [p, g] := by simp only [List.mem_cons, List.not_mem_nil, or_false, not_or]; exact ⟨Blk.ne_ R1 S1 (by decide), Blk.ne_ R1 L1 (by decide)⟩
  have m5 : b ∉ [p, g] := by simp only [List.mem_cons, List.not_mem_nil, or_false, not_or]; exact ⟨Blk.ne_ B1.blk S1 (by decide), Blk.ne_ B1.blk L1 (by decide)⟩
  have m6 : d ∉ [p, g] := by simp only [List.mem_cons, List.not_mem_nil, or_false, not_or]; exact ⟨Blk.ne_ B1.row S1 (by decide), Blk.ne_ B1.row L1 (by decide)⟩
  have m7 : w.heap.size ∉ [p, g] := by simp only [List.mem_cons, List.not_mem_nil, or_false, not_or]; exact ⟨Blk.ne_ qb S1 (by decide), Blk.ne_ qb L1 (by decide)⟩
  clear x1 X1 qb f1 g1 S1 L1 R1 B1 T1 HS HL HR HB
  go_upto_region 11 with (go_at_call 140; refine HTB.out.mono ?_; rintro e w2 ⟨y2, l2, ok2, t2, hor⟩; have X2 : SunX w2 p x h (.pointer none) 139 ⟨32, 0, 0, 0⟩ := Blk.turn HX1.out t2 m1; have F2 := FB.turn HF1.out t2 m2; have G2 := FB.turn HG1.out t2 m3; have R2 : RasAt w2 r g b (h.W : Int) (h.H : Int) true := Blk.turn HR1.out.1 t2 m4; have B2 := HR1.out.2.1.turn t2 m5 m6; have Q2 := Blk.turn HQB.out t2 m7; have T2 := HR1.out.2.2.trans (t2.mono (S' := [p, g, x, d]) (by simp)); clear q1 q4; have q1 := Blk.cell Q2 1; have q4 := Blk.cell Q2 4; obtain ⟨f0, f1, f2', z0, z1, z2, fl⟩ := FB.all F2; obtain ⟨g0, g1, g2, o0, o1, o2, gl⟩ := FB.all G2; have c6 := Blk.cell X2 6; have c6z := Blk.frozen X2 6; have c6l := Blk.lt X2; simp only [fltV, flt0] at hor; rcases hor with ⟨kk, aa, hk, rfl, hb2, hno⟩ | ⟨l, b', d', rfl, P2, hl, hb, hd, yr2, yb2, hle3, s2, hyes⟩; all_goals (try (have hkI : ¬ (kk : Int) = 0 := by omega)))
  · have n1 : g ≠ x := Blk.ne_ l2 X2 (by decide)
    have n2 : g ≠ f8 := Blk.ne_ l2 G2 (by decide)
    have n3 : g ≠ f := Blk.ne_ l2 F2 (by decide)
    have n4 : b ≠ x := Blk.ne_ B2.blk X2 (by decide)
    have n5 : b ≠ f8 := Blk.ne_ B2.blk G2 (by decide)
    have n6 : b ≠ f := Blk.ne_ B2.blk F2 (by decide)
    have n7 : d ≠ x := Blk.ne_ B2.row X2 (by decide)
    have n8 : d ≠ f8 := Blk.ne_ B2.row G2 (by decide)
    have n9 : d ≠ f := Blk.ne_ B2.row F2 (by decide)
    exact leaves_none rfl (v := fltV kk aa) (by simp [results, Tryz.results62, go_sem, f0, f1, f2', fltV, k1, k2, k3, k4, k5, k6]) ⟨y2, [], Blk.st3 (Blk.st3 (Blk.far l2 (p := ⟨x, 6, none⟩) n1 _) n2) n3, ok2, hb2, turn_own (Turn.st3 (Turn.st3 (T2.set_ 6 _ (.inl (by simp))) (.inr hn8)) (.inr hnf)) hnx, ⟨Blk.st3 (Blk.st3 (Blk.far B2.blk (p := ⟨x, 6, none⟩) n4 _) n5) n6, Blk.st3 (Blk.st3 (Blk.far B2.row (p := ⟨x, 6, none⟩) n7 _) n8) n9⟩, by simp, .inl ⟨kk, aa, hk, rfl, by unfold sunPix; rw [if_neg (by have := HNN.out; omega)]; exact hno _ _ HZB.out⟩⟩
  · have n1 : g ≠ x := Blk.ne_ l2 X2 (by decide)
    have n2 : g ≠ f8 := Blk.ne_ l2 G2 (by decide)
    have n4 : b ≠ x := Blk.ne_ B2.blk X2 (by decide)
    have n5 : b ≠ f8 := Blk.ne_ B2.blk G2 (by decide)
    have n7 : d ≠ x := Blk.ne_ B2.row X2 (by decide)
    have n8 : d ≠ f8 := Blk.ne_ B2.row G2 (by decide)
    have n10 : p ≠ x := Blk.ne_ s2 X2 (by decide)
    have n11 : p ≠ f8 := Blk.ne_ s2 G2 (by decide)
    have n12 : r ≠ x := Blk.ne_ R2 X2 (by decide)
    have n13 : r ≠ f8 := Blk.ne_ R2 G2 (by decide)
    have n14 : l ≠ f8 ∧ b' ≠ f8 ∧ d' ≠ f8 := by
      obtain ⟨e1, _, rest, e3, _⟩ := P2
      exact ⟨Blk.ne_ e1 G2 (by decide), Blk.ne_ e3.blk G2 (by decide), Blk.ne_ e3.row G2 (by decide)⟩
    have n15 := palX P2 X2
    have n16 : d' ≠ d ∧ b' ≠ b := ⟨by omega, by omega⟩
    generalize hw3 : (((w2.setCell ⟨x, 6, none⟩ (.pointer (some ⟨l, 0, none⟩))).setCell ⟨f8, 0, none⟩ (.int .i64 0)).setCell ⟨f8, 1, none⟩ (.int .i64 0)).setCell ⟨f8, 2, none⟩ (.int .i64 0) = w3
    have TX : Turn [x, f8] w2 w3 := by rw [← hw3]; exact Turn.st3 ((Turn.refl _ w2).set_ 6 _ (.inl (by simp))) (.inl (by simp))
    have I3 : RowI w w3 p g x r b d f s h (.pointer (some ⟨l, 0, none⟩)) 139 ⟨32 + 3 * h.n, 0, 0, 0⟩ [] y2 y2 := ⟨s2.turn TX (by simp [n10, n11]), l2.turn TX (by simp [n1, n2]), by rw [← hw3]; exact Blk.st3 ((Blk.set_ X2 6 _).eq_ (by simp [sunXs])) k5, Blk.turn R2 TX (by simp [n12, n13]), B2.turn TX (by simp [n4, n5]) (by simp [n7, n8]), .inr ⟨HNN.out, HH.out.n, l, b', d', rfl, P2.turn TX (by simp [n14.1, n15.1]) (by simp [n14.2.1, n15.2.1]) (by simp [n14.2.2, n15.2.2]), n16⟩, F2.turn TX (by simp [k1, k4]), T2.next TX (by simp; exact .inr hn8), hnf, ⟨hle3, Nat.zero_le _, (by show 0 < 256; decide), (by show 0 < 256; decide)⟩, ok2, yr2, rfl⟩
    have q1' : w3.cell? ⟨w.heap.size, 1, none⟩ = some (.int .i64 (h.H : Int)) := (TX.cell (Blk.lt Q2) (by simp [k7, k8]) 1).trans q1
    have HST : Hid (RowI w w3 p g x r b d f s h (.pointer (some ⟨l, 0, none⟩)) 139 ⟨32 + 3 * h.n, 0, 0, 0⟩ [] y2 y2 ∧ ([] : List Qc).length = 0 * h.W ∧ (sunPix s h (4 * (h.W * h.H))).run y = (sunRows s true (4 * (h.W * h.H) + 4 * h.n) h (4 * h.n) h.H ⟨32 + 3 * h.n, 0, 0, 0⟩ []).run y2 ∧ PalHas w3 l b' g d' h.n (sunPal s h)) := Lib.hid ⟨I3, by simp, by unfold sunPix; rw [if_neg (by have := HNN.out; omega), decide_eq_true HTT.out]; exact hyes _ _, (P2.turn TX (by simp [n14.1, n15.1]) (by simp [n14.2.1, n15.2.1]) (by simp [n14.2.2, n15.2.2]))⟩
    have HN := HN l
    have HY2 := Lib.hid yb2
    have HDB := Lib.hid (And.intro hl (And.intro hb hd))
    clear I3 TX hw3 X2 F2 G2 R2 B2 Q2 T2 P2 s2 l2 t2 hl hb hd yb2 hyes f0 f1 f2' z0 z1 z2 fl g0 g1 g2 o0 o1 o2 gl c6 c6z c6l q1 q4 HTB HSL HR1 HX1 HF1 HG1 HQB HOK
    go_wp2_with fail
    go_loopg [51] h.H (fun gh v wr => ∃ (i gk : Nat) (t' : SunSt) (y' : Led) (Q : List Qc), gk = gh ∧ i + gk = h.H ∧ v = .int .i64 (i : Int) ∧ Hid (RowI w wr p g x r b d f s h (.pointer (some ⟨l, 0, none⟩)) 139 t' Q y2 y' ∧ Q.length = i * h.W ∧ (sunPix s h (4 * (h.W * h.H))).run y = (sunRows s true (4 * (h.W * h.H) + 4 * h.n) h (4 * h.n) gk t' Q).run y' ∧ PalHas wr l b' g d' h.n (sunPal s h)))
    case atStart => exact ⟨0, h.H, _, _, [], rfl, by omega, rfl, HST⟩
    case round =>
      obtain ⟨i, gk, t', y', Q, rfl, hi, rfl, hP⟩ := hrel
      obtain ⟨I, hQ, hrun, hPP⟩ := hP.out
      have HPP := Lib.hid hPP
      clear hPP
      have HI := Lib.hid I
      have HQ := Lib.hid hQ
      have HRUN := Lib.hid hrun
      clear hP I hQ hrun HST
      by_cases hi4 : i < h.H
      · have hiI : (i : Int) < (h.H : Int) := by omega
        obtain ⟨gm, rfl⟩ : ∃ gm, gk = gm + 1 := ⟨gk - 1, by omega⟩
        have HIG := Lib.hid hi
        have HIW := Lib.hid hi4
        have HHI : (h.H : Int) ≤ 16384 := by have := HH.out.h2; omega
        clear hi hi4
        go_wp2_with (go_at_call 141; refine (sunRowC HN.out HH.out HSM.out HI.out.S HI.out.L HI.out.X HI.out.R HI.out.B HI.out.M HI.out.ok HI.out.yok HI.out.yr HQ.out HIW.out).mono ?_; rintro e w2 ⟨y2, L2, l2, ok2, b2, tn, B2, len2, hor⟩; obtain ⟨M2, FF, R2⟩ := HI.out.mapRow tn; have T2 := HI.out.T.trans tn; have HD := Lib.hid (And.intro l2 (And.intro B2 T2)); have HTN := Lib.hid tn; have HPW := Lib.hid (HI.out.pal tn HPP.out n16.1); obtain ⟨f0, f1, f2', z0, z1, z2, fl⟩ := FB.all FF; have HM2 := Lib.hid M2; have HFF := Lib.hid FF; clear l2 B2 T2 tn R2 M2; simp only [fltV, flt0] at hor; rcases hor with ⟨kk, aa, hk, rfl, hno⟩ | ⟨t2, rfl, t2ok, yr2, s2, X2, hL2, hyes⟩; all_goals (try (have hkI : ¬ (kk : Int) = 0 := by omega)))
        · skip
          · have PP := HPW.out
            have hnd2 := n16.2
            have PF : l ∉ [f] ∧ b' ∉ [f] ∧ d' ∉ [f] := by
              obtain ⟨e1, _, rest, e3, _⟩ := PP
              simp only [List.mem_cons, List.not_mem_nil, or_false]
              exact ⟨Blk.ne_ e1 FF (by decide), Blk.ne_ e3.blk FF (by decide), Blk.ne_ e3.row FF (by decide)⟩
            have TF : Turn [f] w2 ((st3 w2 f (.int .i64 (kk : Int)) (.int .i64 8) (.int .i64 (aa : Int))).alloc (.cells #[.int .i64 (kk : Int), .int .i64 8, .int .i64 (aa : Int)] 31)) := (Turn.st3 (Turn.refl _ _) (.inl (by simp))).alloc _
            have PW := PP.turn TF PF.1 PF.2.1 PF.2.2
            obtain ⟨n', m', lb, PA, PB, hlen⟩ := pal_full PW
            have LW : LedAt ((st3 w2 f (.int .i64 (kk : Int)) (.int .i64 8) (.int .i64 (aa : Int))).alloc (.cells #[.int .i64 (kk : Int), .int .i64 8, .int .i64 (aa : Int)] 31)) g y2 := Blk.alloc (Blk.st3 HD.out.1 (Blk.ne_ HD.out.1 FF (by decide))) _
            have FW : FB ((st3 w2 f (.int .i64 (kk : Int)) (.int .i64 8) (.int .i64 (aa : Int))).alloc (.cells #[.int .i64 (kk : Int), .int .i64 8, .int .i64 (aa : Int)] 31)) f (kk : Int) 8 (aa : Int) := Blk.alloc (FB.st3 FF) _
            have BW : BufAt ((st3 w2 f (.int .i64 (kk : Int)) (.int .i64 8) (.int .i64 (aa : Int))).alloc (.cells #[.int .i64 (kk : Int), .int .i64 8, .int .i64 (aa : Int)] 31)) b g d (pixL L2 (4 * (h.W * h.H))) := ⟨Blk.alloc (Blk.st3 HD.out.2.1.blk (Blk.ne_ HD.out.2.1.blk FF (by decide))) _, Blk.alloc (Blk.st3 HD.out.2.1.row (Blk.ne_ HD.out.2.1.row FF (by decide))) _⟩
            have TW := (Turn.st3 HD.out.2.2 (.inr hnf) (u := .int .i64 (kk : Int)) (v := .int .i64 8) (x := .int .i64 (aa : Int))).alloc (.cells #[.int .i64 (kk : Int), .int .i64 8, .int .i64 (aa : Int)] 31)
            have hyb : y2.bytes = y.bytes + 4 * (h.n : Int) := by rw [b2, HI.out.yb]; exact HY2.out
            have hy0 := HZB.out
            have hg := give_all hlen (show ((4 * h.n : Nat) : Int) ≤ y2.bytes by omega)
            have hgv := led_give_yes (x := y2) (n := ((4 * h.n : Nat) : Int)) (by omega) (by omega)
            refine leaves_one rfl (f := 99) (args := #[.pointer (some ⟨l, 0, none⟩)]) (by simp [go_sem]) ((palFreeD PA PB LW ok2 hg).mono ?_)
            rintro e u' w9 ⟨rfl, rfl, l9, t9⟩
            have F9 := FB.turn FW t9 (by simp only [List.mem_cons, List.not_mem_nil, or_false, not_or]; exact ⟨Blk.ne_ FW PA (by decide), Blk.ne_ FW PB.blk (by decide), Blk.ne_ FW LW (by decide)⟩)
            have B9 := BW.turn t9 (by simp only [List.mem_cons, List.not_mem_nil, or_false, not_or]; exact ⟨Blk.ne_ BW.blk PA (by decide), Ne.symm hnd2, Blk.ne_ BW.blk LW (by decide)⟩) (by simp only [List.mem_cons, List.not_mem_nil, or_false, not_or]; exact ⟨Blk.ne_ BW.row PA (by decide), Blk.ne_ BW.row PB.blk (by decide), Blk.ne_ BW.row LW (by decide)⟩)
            obtain ⟨e0, e1, e2, _, _, _, _⟩ := FB.all F9
            refine ⟨rfl, _, rfl, fltV kk aa, by simp [results, Tryz.results62, go_sem, e0, e1, e2, fltV], _, L2, l9, ok2.give _, by rw [hgv]; show y2.bytes - _ = _; omega, (turn_own TW hnx).next t9 (by have := HDB.out; simp; omega), B9, len2, .inl ⟨kk, aa, hk, rfl, ?_⟩⟩
            rw [HRUN.out, give_give (by omega)]
            exact hno _
        · have HI2 := Lib.hid (HI.out.row HTN.out s2 HD.out.1 X2 HD.out.2.1 t2ok ok2 yr2 b2)
          clear f0 f1 f2' z0 z1 z2 fl s2 X2 FF
          go_roundg gm
          case measure => omega
          case rel => exact ⟨i + 1, gm, t2, y2, L2, rfl, by have := HIG.out; omega, by go_num, Lib.hid ⟨HI2.out.alloc _, by rw [hL2, HQ.out, Nat.succ_mul], by rw [HRUN.out]; exact hyes _, HPW.out.below ((Below.refl _ _).alloc (Nat.le_refl _) _)⟩⟩
      · have hiH : i = h.H := by omega
        have hg0 : gk = 0 := by omega
        subst hg0
        have hiI : ¬ (i : Int) < (h.H : Int) := by omega
        have HLEN : Hid (Q.length = h.W * h.H) := Lib.hid (by rw [HQ.out, hiH, Nat.mul_comm])
        have HLE : Hid (4 * Q.length ≤ 4 * (h.W * h.H)) := Lib.hid (by rw [HLEN.out]; exact Nat.le_refl _)
        obtain ⟨f0, f1, f2', z0, z1, z2, fl⟩ := FB.all HI.out.F
        clear hi hi4 hiH
        go_wp2_with fail
        · have PP := HPP.out
          have hnd2 := n16.2
          have FF := HI.out.F
          have PF : l ∉ [f] ∧ b' ∉ [f] ∧ d' ∉ [f] := by
            obtain ⟨e1, _, rest, e3, _⟩ := PP
            simp only [List.mem_cons, List.not_mem_nil, or_false]
            exact ⟨Blk.ne_ e1 FF (by decide), Blk.ne_ e3.blk FF (by decide), Blk.ne_ e3.row FF (by decide)⟩
          have TF : Turn [f] wr (st3 wr f (.int .i64 0) (.int .i64 0) (.int .i64 0)) := Turn.st3 (Turn.refl _ _) (.inl (by simp))
          have PW := PP.turn TF PF.1 PF.2.1 PF.2.2
          obtain ⟨n', m', lb, PA, PB, hlen⟩ := pal_full PW
          have LW : LedAt (st3 wr f (.int .i64 0) (.int .i64 0) (.int .i64 0)) g y' := Blk.st3 HI.out.L (Blk.ne_ HI.out.L FF (by decide))
          have FW : FB (st3 wr f (.int .i64 0) (.int .i64 0) (.int .i64 0)) f 0 0 0 := FB.st3 FF
          have BW : BufAt (st3 wr f (.int .i64 0) (.int .i64 0) (.int .i64 0)) b g d (pixL Q (4 * (h.W * h.H))) := ⟨Blk.st3 HI.out.B.blk (Blk.ne_ HI.out.B.blk FF (by decide)), Blk.st3 HI.out.B.row (Blk.ne_ HI.out.B.row FF (by decide))⟩
          have TW := Turn.st3 HI.out.T (.inr hnf) (u := .int .i64 0) (v := .int .i64 0) (x := .int .i64 0)
          have hyb : y'.bytes = y.bytes + 4 * (h.n : Int) := by rw [HI.out.yb]; exact HY2.out
          have hy0 := HZB.out
          have hg := give_all hlen (show ((4 * h.n : Nat) : Int) ≤ y'.bytes by omega)
          have hgv := led_give_yes (x := y') (n := ((4 * h.n : Nat) : Int)) (by omega) (by omega)
          refine leaves_one rfl (f := 99) (args := #[.pointer (some ⟨l, 0, none⟩)]) (by simp [go_sem]) ((palFreeD PA PB LW HI.out.yok hg).mono ?_)
          rintro e u' w9 ⟨rfl, rfl, l9, t9⟩
          have F9 := FB.turn FW t9 (by simp only [List.mem_cons, List.not_mem_nil, or_false, not_or]; exact ⟨Blk.ne_ FW PA (by decide), Blk.ne_ FW PB.blk (by decide), Blk.ne_ FW LW (by decide)⟩)
          have B9 := BW.turn t9 (by simp only [List.mem_cons, List.not_mem_nil, or_false, not_or]; exact ⟨Blk.ne_ BW.blk PA (by decide), Ne.symm hnd2, Blk.ne_ BW.blk LW (by decide)⟩) (by simp only [List.mem_cons, List.not_mem_nil, or_false, not_or]; exact ⟨Blk.ne_ BW.row PA (by decide), Blk.ne_ BW.row PB.blk (by decide), Blk.ne_ BW.row LW (by decide)⟩)
          obtain ⟨e0, e1, e2, _, _, _, _⟩ := FB.all F9
          refine ⟨rfl, _, rfl, flt0, by simp [results, Tryz.results62, go_sem, e0, e1, e2, flt0], _, Q, l9, HI.out.yok.give _, by rw [hgv]; show y'.bytes - _ = _; omega, (turn_own TW hnx).next t9 (by have := HDB.out; simp; omega), B9, HLE.out, .inr ⟨rfl, HLEN.out, ?_⟩⟩
          rw [HRUN.out]
          rfl
set_option maxRecDepth 100000 in
set_option maxHeartbeats 4000000 in
theorem sunPixels_map0 {w : World} {p g r b d : Nat} {s : ByteArray} {h : SunHd} {y : Led} (hh : h.Ok) (hn : 0 < h.n) (ht : h.typ ≠ 2) (hsm : s.size ≤ 1099511627776) (h32 : 32 ≤ s.size) (S0 : SrcAt w p g s 0 s.size 32) (L0 : LedAt w g y) (R0 : RasAt w r g b (h.W : Int) (h.H : Int) true) (B0 : BufAt w b g d (pixL [] (4 * (h.W * h.H)))) (ok : y.Ok) (hr : y.reason = 0) (hzb : ((4 * (h.W * h.H) : Nat) : Int) ≤ y.bytes) :
    Calls Tryz.prog 62 #[.pointer (some ⟨p, 0, none⟩), sunPicV h, .pointer (some ⟨r, 0, none⟩)] w fun e w' => SpxPost w w' p g r b d s h y e := by
  have hmf : ∀ (fn : Fn) (first cap : Array Value) (w : World), (Instr.makeFunc fn first cap).run Tryz.prog w = .ok (.func fn first cap) w := fun _ _ _ _ => rfl
  have HH := Lib.hid hh
  have HSM := Lib.hid hsm
  have HS := Lib.hid S0
  have HL := Lib.hid L0
  have HR := Lib.hid R0
  have HB := Lib.hid B0
  have HOK := Lib.hid (And.intro ok hr)
  have HNN := Lib.hid hn
  have HTT := Lib.hid ht
  have H32 := Lib.hid h32
  have HZB := Lib.hid hzb
  unfold sunPicV
  have hn0 : (0 : Int) < (h.n : Int) := by omega
  have hnI : (h.n : Int) ≤ 256 := by have := hh.n; omega
  have htI : ¬ (h.typ : Int) = 2 := by omega
  have htB : ((h.typ : Int) == 2) = false := by simpa using htI
  have hpw := Blk.lt S0
  have hbw := Blk.lt B0.blk
  have hdw := Blk.lt B0.row
  clear hh hn ht hsm h32 S0 L0 R0 B0 ok hr hzb
  go_enter_defers Tryz.func62, Tryz.ntmps62
  go_upto_region 7 with fail
  have x1 : Blk ((((w.alloc (.cells #[.int .i64 (h.W : Int), .int .i64 (h.H : Int), .int .i64 (h.bits : Int), .int .i64 (h.typ : Int), .int .i64 (h.n : Int)] 97)).alloc (.cells #[.int .i64 0, .int .i64 0, .int .i64 0] 31)).alloc (.cells #[.pointer (some ⟨p, 0, none⟩), .int .i64 (h.W : Int), .int .i64 (h.H : Int), .int .i64 (h.bits : Int), .int .i64 (h.typ : Int), .int .i64 (h.n : Int), .pointer none, .func (.func 138) #[.pointer (some ⟨w.heap.size + 1 + 1, 0, none⟩)] #[], .int .i64 0, .int .i64 0, .int .i64 0] 217)).alloc (.cells #[.int .i64 0, .int .i64 0, .int .i64 0] 31)) (w.heap.size + 1 + 1) 217 #[.pointer (some ⟨p, 0, none⟩), .int .i64 (h.W : Int), .int .i64 (h.H : Int), .int .i64 (h.bits : Int), .int .i64 (h.typ : Int), .int .i64 (h.n : Int), .pointer none, .func (.func 138) #[.pointer (some ⟨w.heap.size + 1 + 1, 0, none⟩)] #[], .int .i64 0, .int .i64 0, .int .i64 0] := Blk.alloc (Blk.new_at _ _ _ (sz2 _ _ _).symm) _
  have X1 : SunX ((((w.alloc (.cells #[.int .i64 (h.W : Int), .int .i64 (h.H : Int), .int .i64 (h.bits : Int), .int .i64 (h.typ : Int), .int .i64 (h.n : Int)] 97)).alloc (.cells #[.int .i64 0, .int .i64 0, .int .i64 0] 31)).alloc (.cells #[.pointer (some ⟨p, 0, none⟩), .int .i64 (h.W : Int), .int .i64 (h.H : Int), .int .i64 (h.bits : Int), .int .i64 (h.typ : Int), .int .i64 (h.n : Int), .pointer none, .func (.func 138) #[.pointer (some ⟨w.heap.size + 1 + 1, 0, none⟩)] #[], .int .i64 0, .int .i64 0, .int .i64 0] 217)).alloc (.cells #[.int .i64 0, .int .i64 0, .int .i64 0] 31)) p (w.heap.size + 1 + 1) h (.pointer none) 138 ⟨32, 0, 0, 0⟩ := x1.eq_ (by simp [sunXs, htI])
  have qb : Blk ((((w.alloc (.cells #[.int .i64 (h.W : Int), .int .i64 (h.H : Int), .int .i64 (h.bits : Int), .int .i64 (h.typ : Int), .int .i64 (h.n : Int)] 97)).alloc (.cells #[.int .i64 0, .int .i64 0, .int .i64 0] 31)).alloc (.cells #[.pointer (some ⟨p, 0, none⟩), .int .i64 (h.W : Int), .int .i64 (h.H : Int), .int .i64 (h.bits : Int), .int .i64 (h.typ : Int), .int .i64 (h.n : Int), .pointer none, .func (.func 138) #[.pointer (some ⟨w.heap.size + 1 + 1, 0, none⟩)] #[], .int .i64 0, .int .i64 0, .int .i64 0] 217)).alloc (.cells #[.int .i64 0, .int .i64 0, .int .i64 0] 31)) w.heap.size 97 #[.int .i64 (h.W : Int), .int .i64 (h.H : Int), .int .i64 (h.bits : Int), .int .i64 (h.typ : Int), .int .i64 (h.n : Int)] := Blk.alloc (Blk.alloc (Blk.alloc (Blk.new w _ _) _) _) _
  have f1 : FB ((((w.alloc (.cells #[.int .i64 (h.W : Int), .int .i64 (h.H : Int), .int .i64 (h.bits : Int), .int .i64 (h.typ : Int), .int .i64 (h.n : Int)] 97)).alloc (.cells #[.int .i64 0, .int .i64 0, .int .i64 0] 31)).alloc (.cells #[.pointer (some ⟨p, 0, none⟩), .int .i64 (h.W : Int), .int .i64 (h.H : Int), .int .i64 (h.bits : Int), .int .i64 (h.typ : Int), .int .i64 (h.n : Int), .pointer none, .func (.func 138) #[.pointer (some ⟨w.heap.size + 1 + 1, 0, none⟩)] #[], .int .i64 0, .int .i64 0, .int .i64 0] 217)).alloc (.cells #[.int .i64 0, .int .i64 0, .int .i64 0] 31)) (w.heap.size + 1) 0 0 0 := Blk.alloc (Blk.alloc (Blk.new_at _ _ _ (sz1 _ _).symm) _) _
  have g1 : FB ((((w.alloc (.cells #[.int .i64 (h.W : Int), .int .i64 (h.H : Int), .int .i64 (h.bits : Int), .int .i64 (h.typ : Int), .int .i64 (h.n : Int)] 97)).alloc (.cells #[.int .i64 0, .int .i64 0, .int .i64 0] 31)).alloc (.cells #[.pointer (some ⟨p, 0, none⟩), .int .i64 (h.W : Int), .int .i64 (h.H : Int), .int .i64 (h.bits : Int), .int .i64 (h.typ : Int), .int .i64 (h.n : Int), .pointer none, .func (.func 138) #[.pointer (some ⟨w.heap.size + 1 + 1, 0, none⟩)] #[], .int .i64 0, .int .i64 0, .int .i64 0] 217)).alloc (.cells #[.int .i64 0, .int .i64 0, .int .i64 0] 31)) (w.heap.size + 1 + 1 + 1) 0 0 0 := Blk.new_at _ _ _ (by simp)
  have S1 : SrcAt ((((w.alloc (.cells #[.int .i64 (h.W : Int), .int .i64 (h.H : Int), .int .i64 (h.bits : Int), .int .i64 (h.typ : Int), .int .i64 (h.n : Int)] 97)).alloc (.cells #[.int .i64 0, .int .i64 0, .int .i64 0] 31)).alloc (.cells #[.pointer (some ⟨p, 0, none⟩), .int .i64 (h.W : Int), .int .i64 (h.H : Int), .int .i64 (h.bits : Int), .int .i64 (h.typ : Int), .int .i64 (h.n : Int), .pointer none, .func (.func 138) #[.pointer (some ⟨w.heap.size + 1 + 1, 0, none⟩)] #[], .int .i64 0, .int .i64 0, .int .i64 0] 217)).alloc (.cells #[.int .i64 0, .int .i64 0, .int .i64 0] 31)) p g s 0 s.size 32 := Blk.alloc (Blk.alloc (Blk.alloc (Blk.alloc HS.out _) _) _) _
  have L1 : LedAt ((((w.alloc (.cells #[.int .i64 (h.W : Int), .int .i64 (h.H : Int), .int .i64 (h.bits : Int), .int .i64 (h.typ : Int), .int .i64 (h.n : Int)] 97)).alloc (.cells #[.int .i64 0, .int .i64 0, .int .i64 0] 31)).alloc (.cells #[.pointer (some ⟨p, 0, none⟩), .int .i64 (h.W : Int), .int .i64 (h.H : Int), .int .i64 (h.bits : Int), .int .i64 (h.typ : Int), .int .i64 (h.n : Int), .pointer none, .func (.func 138) #[.pointer (some ⟨w.heap.size + 1 + 1, 0, none⟩)] #[], .int .i64 0, .int .i64 0, .int .i64 0] 217)).alloc (.cells #[.int .i64 0, .int .i64 0, .int .i64 0] 31)) g y := Blk.alloc (Blk.alloc (Blk.alloc (Blk.alloc HL.out _) _) _) _
  have R1 : RasAt ((((w.alloc (.cells #[.int .i64 (h.W : Int), .int .i64 (h.H : Int), .int .i64 (h.bits : Int), .int .i64 (h.typ : Int), .int .i64 (h.n : Int)] 97)).alloc (.cells #[.int .i64 0, .int .i64 0, .int .i64 0] 31)).alloc (.cells #[.pointer (some ⟨p, 0, none⟩), .int .i64 (h.W : Int), .int .i64 (h.H : Int), .int .i64 (h.bits : Int), .int .i64 (h.typ : Int), .int .i64 (h.n : Int), .pointer none, .func (.func 138) #[.pointer (some ⟨w.heap.size + 1 + 1, 0, none⟩)] #[], .int .i64 0, .int .i64 0, .int .i64 0] 217)).alloc (.cells #[.int .i64 0, .int .i64 0, .int .i64 0] 31)) r g b (h.W : Int) (h.H : Int) true := Blk.alloc (Blk.alloc (Blk.alloc (Blk.alloc HR.out _) _) _) _
  have B1 : BufAt ((((w.alloc (.cells #[.int .i64 (h.W : Int), .int .i64 (h.H : Int), .int .i64 (h.bits : Int), .int .i64 (h.typ : Int), .int .i64 (h.n : Int)] 97)).alloc (.cells #[.int .i64 0, .int .i64 0, .int .i64 0] 31)).alloc (.cells #[.pointer (some ⟨p, 0, none⟩), .int .i64 (h.W : Int), .int .i64 (h.H : Int), .int .i64 (h.bits : Int), .int .i64 (h.typ : Int), .int .i64 (h.n : Int), .pointer none, .func (.func 138) #[.pointer (some ⟨w.heap.size + 1 + 1, 0, none⟩)] #[], .int .i64 0, .int .i64 0, .int .i64 0] 217)).alloc (.cells #[.int .i64 0, .int .i64 0, .int .i64 0] 31)) b g d (pixL [] (4 * (h.W * h.H))) := ⟨Blk.alloc (Blk.alloc (Blk.alloc (Blk.alloc HB.out.blk _) _) _) _, Blk.alloc (Blk.alloc (Blk.alloc (Blk.alloc HB.out.row _) _) _) _⟩
  have T1 : Turn [p, g, w.heap.size + 1 + 1, d] w ((((w.alloc (.cells #[.int .i64 (h.W : Int), .int .i64 (h.H : Int), .int .i64 (h.bits : Int), .int .i64 (h.typ : Int), .int .i64 (h.n : Int)] 97)).alloc (.cells #[.int .i64 0, .int .i64 0, .int .i64 0] 31)).alloc (.cells #[.pointer (some ⟨p, 0, none⟩), .int .i64 (h.W : Int), .int .i64 (h.H : Int), .int .i64 (h.bits : Int), .int .i64 (h.typ : Int), .int .i64 (h.n : Int), .pointer none, .func (.func 138) #[.pointer (some ⟨w.heap.size + 1 + 1, 0, none⟩)] #[], .int .i64 0, .int .i64 0, .int .i64 0] 217)).alloc (.cells #[.int .i64 0, .int .i64 0, .int .i64 0] 31)) := ((((Turn.refl _ w).alloc _).alloc _).alloc _).alloc _
  have hnx : w.heap.size ≤ w.heap.size + 1 + 1 := by omega
  have hnf : w.heap.size ≤ w.heap.size + 1 := by omega
  have hn8 : w.heap.size ≤ w.heap.size + 1 + 1 + 1 := by omega
  have hws : w.heap.size ≤ (((((w.alloc (.cells #[.int .i64 (h.W : Int), .int .i64 (h.H : Int), .int .i64 (h.bits : Int), .int .i64 (h.typ : Int), .int .i64 (h.n : Int)] 97)).alloc (.cells #[.int .i64 0, .int .i64 0, .int .i64 0] 31)).alloc (.cells #[.pointer (some ⟨p, 0, none⟩), .int .i64 (h.W : Int), .int .i64 (h.H : Int), .int .i64 (h.bits : Int), .int .i64 (h.typ : Int), .int .i64 (h.n : Int), .pointer none, .func (.func 138) #[.pointer (some ⟨w.heap.size + 1 + 1, 0, none⟩)] #[], .int .i64 0, .int .i64 0, .int .i64 0] 217)).alloc (.cells #[.int .i64 0, .int .i64 0, .int .i64 0] 31))).heap.size := T1.size
  have k1 : w.heap.size + 1 ≠ w.heap.size + 1 + 1 + 1 := by omega
  generalize ((((w.alloc (.cells #[.int .i64 (h.W : Int), .int .i64 (h.H : Int), .int .i64 (h.bits : Int), .int .i64 (h.typ : Int), .int .i64 (h.n : Int)] 97)).alloc (.cells #[.int .i64 0, .int .i64 0, .int .i64 0] 31)).alloc (.cells #[.pointer (some ⟨p, 0, none⟩), .int .i64 (h.W : Int), .int .i64 (h.H : Int), .int .i64 (h.bits : Int), .int .i64 (h.typ : Int), .int .i64 (h.n : Int), .pointer none, .func (.func 138) #[.pointer (some ⟨w.heap.size + 1 + 1, 0, none⟩)] #[], .int .i64 0, .int .i64 0, .int .i64 0] 217)).alloc (.cells #[.int .i64 0, .int .i64 0, .int .i64 0] 31)) = w1 at x1 X1 qb f1 g1 S1 L1 R1 B1 T1 hws ⊢
  generalize w.heap.size + 1 + 1 + 1 = f8 at g1 hn8 k1 ⊢
  generalize w.heap.size + 1 + 1 = x at x1 X1 T1 hnx ⊢
  generalize w.heap.size + 1 = f at f1 hnf k1 ⊢
  have k2 := k1.symm
  have k3 : x ≠ f := Blk.ne_ X1 f1 (by decide)
  have k4 := k3.symm
  have k5 : x ≠ f8 := Blk.ne_ X1 g1 (by decide)
  have k6 := k5.symm
  have k7 : w.heap.size ≠ x := Blk.ne_ qb X1 (by decide)
  have k8 : w.heap.size ≠ f8 := Blk.ne_ qb g1 (by decide)
  have HN : ∀ l : Nat, Hid (IsNext s h (.pointer (some ⟨l, 0, none⟩)) 138 false (4 * (h.W * h.H) + 4 * h.n)) := fun l => Lib.hid (isNext_plain HSM.out)
  have q1 := Blk.cell qb 1
  have q4 := Blk.cell qb 4
  have HQB := Lib.hid qb
  have HX1 := Lib.hid X1
  have HF1 := Lib.hid f1
  have HG1 := Lib.hid g1
  have HR1 := Lib.hid (And.intro R1 (And.intro B1 T1))
  have HTB := Lib.hid (sunTableC HH.out HNN.out HSM.out H32.out S1 L1 HOK.out.1 HOK.out.2)
  have HSL := Lib.hid (And.intro S1 L1)
  have hpg : p ≠ g := Blk.ne_ S1 L1 (by decide)
  have m1 : x ∉ [p, g] := by simp only [List.mem_cons, List.not_mem_nil, or_false, not_or]; exact ⟨Blk.ne_ X1 S1 (by decide), Blk.ne_ X1 L1 (by decide)⟩
  have m2 : f ∉ [p, g] := by simp only [List.mem_cons, List.not_mem_nil, or_false, not_or]; exact ⟨Blk.ne_ f1 S1 (by decide), Blk.ne_ f1 L1 (by decide)⟩
  have m3 : f8 ∉ [p, g] := by simp only [List.mem_cons, List.not_mem_nil, or_false, not_or]; exact ⟨Blk.ne_ g1 S1 (by decide), Blk.ne_ g1 L1 (by decide)⟩
  have m4 : r ∉ [p, g] := by simp only [List.mem_cons, List.not_mem_nil, or_false, not_or]; exact ⟨Blk.ne_ R1 S1 (by decide), Blk.ne_ R1 L1 (by decide)⟩
  have m5 : b ∉ [p, g] := by simp only [List.mem_cons, List.not_mem_nil, or_false, not_or]; exact ⟨Blk.ne_ B1.blk S1 (by decide), Blk.ne_ B1.blk L1 (by decide)⟩
  have m6 : d ∉ [p, g] := by simp only [List.mem_cons, List.not_mem_nil, or_false, not_or]; exact ⟨Blk.ne_ B1.row S1 (by decide), Blk.ne_ B1.row L1 (by decide)⟩
  have m7 : w.heap.size ∉ [p, g] := by simp only [List.mem_cons, List.not_mem_nil, or_false, not_or]; exact ⟨Blk.ne_ qb S1 (by decide), Blk.ne_ qb L1 (by decide)⟩
  clear x1 X1 qb f1 g1 S1 L1 R1 B1 T1 HS HL HR HB
  go_upto_region 11 with (go_at_call 140; refine HTB.out.mono ?_; rintro e w2 ⟨y2, l2, ok2, t2, hor⟩; have X2 : SunX w2 p x h (.pointer none) 138 ⟨32, 0, 0, 0⟩ := Blk.turn HX1.out t2 m1; have F2 := FB.turn HF1.out t2 m2; have G2 := FB.turn HG1.out t2 m3; have R2 : RasAt w2 r g b (h.W : Int) (h.H : Int) true := Blk.turn HR1.out.1 t2 m4; have B2 := HR1.out.2.1.turn t2 m5 m6; have Q2 := Blk.turn HQB.out t2 m7; have T2 := HR1.out.2.2.trans (t2.mono (S' := [p, g, x, d]) (by simp)); clear q1 q4; have q1 := Blk.cell Q2 1; have q4 := Blk.cell Q2 4; obtain ⟨f0, f1, f2', z0, z1, z2, fl⟩ := FB.all F2; obtain ⟨g0, g1, g2, o0, o1, o2, gl⟩ := FB.all G2; have c6 := Blk.cell X2 6; have c6z := Blk.frozen X2 6; have c6l := Blk.lt X2; simp only [fltV, flt0] at hor; rcases hor with ⟨kk, aa, hk, rfl, hb2, hno⟩ | ⟨l, b', d', rfl, P2, hl, hb, hd, yr2, yb2, hle3, s2, hyes⟩; all_goals (try (have hkI : ¬ (kk : Int) = 0 := by omega)))
  · have n1 : g ≠ x := Blk.ne_ l2 X2 (by decide)
    have n2 : g ≠ f8 := Blk.ne_ l2 G2 (by decide)
    have n3 : g ≠ f := Blk.ne_ l2 F2 (by decide)
    have n4 : b ≠ x := Blk.ne_ B2.blk X2 (by decide)
    have n5 : b ≠ f8 := Blk.ne_ B2.blk G2 (by decide)
    have n6 : b ≠ f := Blk.ne_ B2.blk F2 (by decide)
    have n7 : d ≠ x := Blk.ne_ B2.row X2 (by decide)
    have n8 : d ≠ f8 := Blk.ne_ B2.row G2 (by decide)
    have n9 : d ≠ f := Blk.ne_ B2.row F2 (by decide)
    exact leaves_none rfl (v := fltV kk aa) (by simp [results, Tryz.results62, go_sem, f0, f1, f2', fltV, k1, k2, k3, k4, k5, k6]) ⟨y2, [], Blk.st3 (Blk.st3 (Blk.far l2 (p := ⟨x, 6, none⟩) n1 _) n2) n3, ok2, hb2, turn_own (Turn.st3 (Turn.st3 (T2.set_ 6 _ (.inl (by simp))) (.inr hn8)) (.inr hnf)) hnx, ⟨Blk.st3 (Blk.st3 (Blk.far B2.blk (p := ⟨x, 6, none⟩) n4 _) n5) n6, Blk.st3 (Blk.st3 (Blk.far B2.row (p := ⟨x, 6, none⟩) n7 _) n8) n9⟩, by simp, .inl ⟨kk, aa, hk, rfl, by unfold sunPix; rw [if_neg (by have := HNN.out; omega)]; exact hno _ _ HZB.out⟩⟩
  · have n1 : g ≠ x := Blk.ne_ l2 X2 (by decide)
    have n2 : g ≠ f8 := Blk.ne_ l2 G2 (by decide)
    have n4 : b ≠ x := Blk.ne_ B2.blk X2 (by decide)
    have n5 : b ≠ f8 := Blk.ne_ B2.blk G2 (by decide)
    have n7 : d ≠ x := Blk.ne_ B2.row X2 (by decide)
    have n8 : d ≠ f8 := Blk.ne_ B2.row G2 (by decide)
    have n10 : p ≠ x := Blk.ne_ s2 X2 (by decide)
    have n11 : p ≠ f8 := Blk.ne_ s2 G2 (by decide)
    have n12 : r ≠ x := Blk.ne_ R2 X2 (by decide)
    have n13 : r ≠ f8 := Blk.ne_ R2 G2 (by decide)
    have n14 : l ≠ f8 ∧ b' ≠ f8 ∧ d' ≠ f8 := by
      obtain ⟨e1, _, rest, e3, _⟩ := P2
      exact ⟨Blk.ne_ e1 G2 (by decide), Blk.ne_ e3.blk G2 (by decide), Blk.ne_ e3.row G2 (by decide)⟩
    have n15 := palX P2 X2
    have n16 : d' ≠ d ∧ b' ≠ b := ⟨by omega, by omega⟩
    generalize hw3 : (((w2.setCell ⟨x, 6, none⟩ (.pointer (some ⟨l, 0, none⟩))).setCell ⟨f8, 0, none⟩ (.int .i64 0)).setCell ⟨f8, 1, none⟩ (.int .i64 0)).setCell ⟨f8, 2, none⟩ (.int .i64 0) = w3
    have TX : Turn [x, f8] w2 w3 := by rw [← hw3]; exact Turn.st3 ((Turn.refl _ w2).set_ 6 _ (.inl (by simp))) (.inl (by simp))
    have I3 : RowI w w3 p g x r b d f s h (.pointer (some ⟨l, 0, none⟩)) 138 ⟨32 + 3 * h.n, 0, 0, 0⟩ [] y2 y2 := ⟨s2.turn TX (by simp [n10, n11]), l2.turn TX (by simp [n1, n2]), by rw [← hw3]; exact Blk.st3 ((Blk.set_ X2 6 _).eq_ (by simp [sunXs])) k5, Blk.turn R2 TX (by simp [n12, n13]), B2.turn TX (by simp [n4, n5]) (by simp [n7, n8]), .inr ⟨HNN.out, HH.out.n, l, b', d', rfl, P2.turn TX (by simp [n14.1, n15.1]) (by simp [n14.2.1, n15.2.1]) (by simp [n14.2.2, n15.2.2]), n16⟩, F2.turn TX (by simp [k1, k4]), T2.next TX (by simp; exact .inr hn8), hnf, ⟨hle3, Nat.zero_le _, (by show 0 < 256; decide), (by show 0 < 256; decide)⟩, ok2, yr2, rfl⟩
    have q1' : w3.cell? ⟨w.heap.size, 1, none⟩ = some (.int .i64 (h.H : Int)) := (TX.cell (Blk.lt Q2) (by simp [k7, k8]) 1).trans q1
    have HST : Hid (RowI w w3 p g x r b d f s h (.pointer (some ⟨l, 0, none⟩)) 138 ⟨32 + 3 * h.n, 0, 0, 0⟩ [] y2 y2 ∧ ([] : List Qc).length = 0 * h.W ∧ (sunPix s h (4 * (h.W * h.H))).run y = (sunRows s false (4 * (h.W * h.H) + 4 * h.n) h (4 * h.n) h.H ⟨32 + 3 * h.n, 0, 0, 0⟩ []).run y2 ∧ PalHas w3 l b' g d' h.n (sunPal s h)) := Lib.hid ⟨I3, by simp, by unfold sunPix; rw [if_neg (by have := HNN.out; omega), decide_eq_false HTT.out]; exact hyes _ _, (P2.turn TX (by simp [n14.1, n15.1]) (by simp [n14.2.1, n15.2.1]) (by simp [n14.2.2, n15.2.2]))⟩
    have HN := HN l
    have HY2 := Lib.hid yb2
    have HDB := Lib.hid (And.intro hl (And.intro hb hd))
    clear I3 TX hw3 X2 F2 G2 R2 B2 Q2 T2 P2 s2 l2 t2 hl hb hd yb2 hyes f0 f1 f2' z0 z1 z2 fl g0 g1 g2 o0 o1 o2 gl c6 c6z c6l q1 q4 HTB HSL HR1 HX1 HF1 HG1 HQB HOK
    go_wp2_with fail
    go_loopg [51] h.H (fun gh v wr => ∃ (i gk : Nat) (t' : SunSt) (y' : Led) (Q : List Qc), gk = gh ∧ i + gk = h.H ∧ v = .int .i64 (i : Int) ∧ Hid (RowI w wr p g x r b d f s h (.pointer (some ⟨l, 0, none⟩)) 138 t' Q y2 y' ∧ Q.length = i * h.W ∧ (sunPix s h (4 * (h.W * h.H))).run y = (sunRows s false (4 * (h.W * h.H) + 4 * h.n) h (4 * h.n) gk t' Q).run y' ∧ PalHas wr l b' g d' h.n (sunPal s h)))
    case atStart => exact ⟨0, h.H, _, _, [], rfl, by omega, rfl, HST⟩
    case round =>
      obtain ⟨i, gk, t', y', Q, rfl, hi, rfl, hP⟩ := hrel
      obtain ⟨I, hQ, hrun, hPP⟩ := hP.out
      have HPP := Lib.hid hPP
      clear hPP
      have HI := Lib.hid I
      have HQ := Lib.hid hQ
      have HRUN := Lib.hid hrun
      clear hP I hQ hrun HST
      by_cases hi4 : i < h.H
      · have hiI : (i : Int) < (h.H : Int) := by omega
        obtain ⟨gm, rfl⟩ : ∃ gm, gk = gm + 1 := ⟨gk - 1, by omega⟩
        have HIG := Lib.hid hi
        have HIW := Lib.hid hi4
        have HHI : (h.H : Int) ≤ 16384 := by have := HH.out.h2; omega
        clear hi hi4
        go_wp2_with (go_at_call 141; refine (sunRowC HN.out HH.out HSM.out HI.out.S HI.out.L HI.out.X HI.out.R HI.out.B HI.out.M HI.out.ok HI.out.yok HI.out.yr HQ.out HIW.out).mono ?_; rintro e w2 ⟨y2, L2, l2, ok2, b2, tn, B2, len2, hor⟩; obtain ⟨M2, FF, R2⟩ := HI.out.mapRow tn; have T2 := HI.out.T.trans tn; have HD := Lib.hid (And.intro l2 (And.intro B2 T2)); have HTN := Lib.hid tn; have HPW := Lib.hid (HI.out.pal tn HPP.out n16.1); obtain ⟨f0, f1, f2', z0, z1, z2, fl⟩ := FB.all FF; have HM2 := Lib.hid M2; have HFF := Lib.hid FF; clear l2 B2 T2 tn R2 M2; simp only [fltV, flt0] at hor; rcases hor with ⟨kk, aa, hk, rfl, hno⟩ | ⟨t2, rfl, t2ok, yr2, s2, X2, hL2, hyes⟩; all_goals (try (have hkI : ¬ (kk : Int) = 0 := by omega)))
        · skip
          · have PP := HPW.out
            have hnd2 := n16.2
            have PF : l ∉ [f] ∧ b' ∉ [f] ∧ d' ∉ [f] := by
              obtain ⟨e1, _, rest, e3, _⟩ := PP
              simp only [List.mem_cons, List.not_mem_nil, or_false]
              exact ⟨Blk.ne_ e1 FF (by decide), Blk.ne_ e3.blk FF (by decide), Blk.ne_ e3.row FF (by decide)⟩
            have TF : Turn [f] w2 ((st3 w2 f (.int .i64 (kk : Int)) (.int .i64 8) (.int .i64 (aa : Int))).alloc (.cells #[.int .i64 (kk : Int), .int .i64 8, .int .i64 (aa : Int)] 31)) := (Turn.st3 (Turn.refl _ _) (.inl (by simp))).alloc _
            have PW := PP.turn TF PF.1 PF.2.1 PF.2.2
            obtain ⟨n', m', lb, PA, PB, hlen⟩ := pal_full PW
            have LW : LedAt ((st3 w2 f (.int .i64 (kk : Int)) (.int .i64 8) (.int .i64 (aa : Int))).alloc (.cells #[.int .i64 (kk : Int), .int .i64 8, .int .i64 (aa : Int)] 31)) g y2 := Blk.alloc (Blk.st3 HD.out.1 (Blk.ne_ HD.out.1 FF (by decide))) _
            have FW : FB ((st3 w2 f (.int .i64 (kk : Int)) (.int .i64 8) (.int .i64 (aa : Int))).alloc (.cells #[.int .i64 (kk : Int), .int .i64 8, .int .i64 (aa : Int)] 31)) f (kk : Int) 8 (aa : Int) := Blk.alloc (FB.st3 FF) _
            have BW : BufAt ((st3 w2 f (.int .i64 (kk : Int)) (.int .i64 8) (.int .i64 (aa : Int))).alloc (.cells #[.int .i64 (kk : Int), .int .i64 8, .int .i64 (aa : Int)] 31)) b g d (pixL L2 (4 * (h.W * h.H))) := ⟨Blk.alloc (Blk.st3 HD.out.2.1.blk (Blk.ne_ HD.out.2.1.blk FF (by decide))) _, Blk.alloc (Blk.st3 HD.out.2.1.row (Blk.ne_ HD.out.2.1.row FF (by decide))) _⟩
            have TW := (Turn.st3 HD.out.2.2 (.inr hnf) (u := .int .i64 (kk : Int)) (v := .int .i64 8) (x := .int .i64 (aa : Int))).alloc (.cells #[.int .i64 (kk : Int), .int .i64 8, .int .i64 (aa : Int)] 31)
            have hyb : y2.bytes = y.bytes + 4 * (h.n : Int) := by rw [b2, HI.out.yb]; exact HY2.out
            have hy0 := HZB.out
            have hg := give_all hlen (show ((4 * h.n : Nat) : Int) ≤ y2.bytes by omega)
            have hgv := led_give_yes (x := y2) (n := ((4 * h.n : Nat) : Int)) (by omega) (by omega)
            refine leaves_one rfl (f := 99) (args := #[.pointer (some ⟨l, 0, none⟩)]) (by simp [go_sem]) ((palFreeD PA PB LW ok2 hg).mono ?_)
            rintro e u' w9 ⟨rfl, rfl, l9, t9⟩
            have F9 := FB.turn FW t9 (by simp only [List.mem_cons, List.not_mem_nil, or_false, not_or]; exact ⟨Blk.ne_ FW PA (by decide), Blk.ne_ FW PB.blk (by decide), Blk.ne_ FW LW (by decide)⟩)
            have B9 := BW.turn t9 (by simp only [List.mem_cons, List.not_mem_nil, or_false, not_or]; exact ⟨Blk.ne_ BW.blk PA (by decide), Ne.symm hnd2, Blk.ne_ BW.blk LW (by decide)⟩) (by simp only [List.mem_cons, List.not_mem_nil, or_false, not_or]; exact ⟨Blk.ne_ BW.row PA (by decide), Blk.ne_ BW.row PB.blk (by decide), Blk.ne_ BW.row LW (by decide)⟩)
            obtain ⟨e0, e1, e2, _, _, _, _⟩ := FB.all F9
            refine ⟨rfl, _, rfl, fltV kk aa, by simp [results, Tryz.results62, go_sem, e0, e1, e2, fltV], _, L2, l9, ok2.give _, by rw [hgv]; show y2.bytes - _ = _; omega, (turn_own TW hnx).next t9 (by have := HDB.out; simp; omega), B9, len2, .inl ⟨kk, aa, hk, rfl, ?_⟩⟩
            rw [HRUN.out, give_give (by omega)]
            exact hno _
        · have HI2 := Lib.hid (HI.out.row HTN.out s2 HD.out.1 X2 HD.out.2.1 t2ok ok2 yr2 b2)
          clear f0 f1 f2' z0 z1 z2 fl s2 X2 FF
          go_roundg gm
          case measure => omega
          case rel => exact ⟨i + 1, gm, t2, y2, L2, rfl, by have := HIG.out; omega, by go_num, Lib.hid ⟨HI2.out.alloc _, by rw [hL2, HQ.out, Nat.succ_mul], by rw [HRUN.out]; exact hyes _, HPW.out.below ((Below.refl _ _).alloc (Nat.le_refl _) _)⟩⟩
      · have hiH : i = h.H := by omega
        have hg0 : gk = 0 := by omega
        subst hg0
        have hiI : ¬ (i : Int) < (h.H : Int) := by omega
        have HLEN : Hid (Q.length = h.W * h.H) := Lib.hid (by rw [HQ.out, hiH, Nat.mul_comm])
        have HLE : Hid (4 * Q.length ≤ 4 * (h.W * h.H)) := Lib.hid (by rw [HLEN.out]; exact Nat.le_refl _)
        obtain ⟨f0, f1, f2', z0, z1, z2, fl⟩ := FB.all HI.out.F
        clear hi hi4 hiH
        go_wp2_with fail
        · have PP := HPP.out
          have hnd2 := n16.2
          have FF := HI.out.F
          have PF : l ∉ [f] ∧ b' ∉ [f] ∧ d' ∉ [f] := by
            obtain ⟨e1, _, rest, e3, _⟩ := PP
            simp only [List.mem_cons, List.not_mem_nil, or_false]
            exact ⟨Blk.ne_ e1 FF (by decide), Blk.ne_ e3.blk FF (by decide), Blk.ne_ e3.row FF (by decide)⟩
          have TF : Turn [f] wr (st3 wr f (.int .i64 0) (.int .i64 0) (.int .i64 0)) := Turn.st3 (Turn.refl _ _) (.inl (by simp))
          have PW := PP.turn TF PF.1 PF.2.1 PF.2.2
          obtain ⟨n', m', lb, PA, PB, hlen⟩ := pal_full PW
          have LW : LedAt (st3 wr f (.int .i64 0) (.int .i64 0) (.int .i64 0)) g y' := Blk.st3 HI.out.L (Blk.ne_ HI.out.L FF (by decide))
          have FW : FB (st3 wr f (.int .i64 0) (.int .i64 0) (.int .i64 0)) f 0 0 0 := FB.st3 FF
          have BW : BufAt (st3 wr f (.int .i64 0) (.int .i64 0) (.int .i64 0)) b g d (pixL Q (4 * (h.W * h.H))) := ⟨Blk.st3 HI.out.B.blk (Blk.ne_ HI.out.B.blk FF (by decide)), Blk.st3 HI.out.B.row (Blk.ne_ HI.out.B.row FF (by decide))⟩
          have TW := Turn.st3 HI.out.T (.inr hnf) (u := .int .i64 0) (v := .int .i64 0) (x := .int .i64 0)
          have hyb : y'.bytes = y.bytes + 4 * (h.n : Int) := by rw [HI.out.yb]; exact HY2.out
          have hy0 := HZB.out
          have hg := give_all hlen (show ((4 * h.n : Nat) : Int) ≤ y'.bytes by omega)
          have hgv := led_give_yes (x := y') (n := ((4 * h.n : Nat) : Int)) (by omega) (by omega)
          refine leaves_one rfl (f := 99) (args := #[.pointer (some ⟨l, 0, none⟩)]) (by simp [go_sem]) ((palFreeD PA PB LW HI.out.yok hg).mono ?_)
          rintro e u' w9 ⟨rfl, rfl, l9, t9⟩
          have F9 := FB.turn FW t9 (by simp only [List.mem_cons, List.not_mem_nil, or_false, not_or]; exact ⟨Blk.ne_ FW PA (by decide), Blk.ne_ FW PB.blk (by decide), Blk.ne_ FW LW (by decide)⟩)
          have B9 := BW.turn t9 (by simp only [List.mem_cons, List.not_mem_nil, or_false, not_or]; exact ⟨Blk.ne_ BW.blk PA (by decide), Ne.symm hnd2, Blk.ne_ BW.blk LW (by decide)⟩) (by simp only [List.mem_cons, List.not_mem_nil, or_false, not_or]; exact ⟨Blk.ne_ BW.row PA (by decide), Blk.ne_ BW.row PB.blk (by decide), Blk.ne_ BW.row LW (by decide)⟩)
          obtain ⟨e0, e1, e2, _, _, _, _⟩ := FB.all F9
          refine ⟨rfl, _, rfl, flt0, by simp [results, Tryz.results62, go_sem, e0, e1, e2, flt0], _, Q, l9, HI.out.yok.give _, by rw [hgv]; show y'.bytes - _ = _; omega, (turn_own TW hnx).next t9 (by have := HDB.out; simp; omega), B9, HLE.out, .inr ⟨rfl, HLEN.out, ?_⟩⟩
          rw [HRUN.out]
          rfl
end Go.Proofs.YtccldalagbfmhaaGreat
namespace Go.Proofs.YtccldalagbfmhaaGreat
open Go.RowKit
set_option linter.unusedVariables false
set_option linter.unusedSimpArgs false

theorem sunPixelsC {w : World} {p g r b d : Nat} {s : ByteArray} {h : SunHd} {y : Led} (hh : h.Ok) (hsm : s.size ≤ 1099511627776) (h32 : 32 ≤ s.size) (S0 : SrcAt w p g s 0 s.size 32) (L0 : LedAt w g y) (R0 : RasAt w r g b (h.W : Int) (h.H : Int) true) (B0 : BufAt w b g d (pixL [] (4 * (h.W * h.H)))) (ok : y.Ok) (hr : y.reason = 0) (hzb : ((4 * (h.W * h.H) : Nat) : Int) ≤ y.bytes) :
    Calls Tryz.prog 62 #[.pointer (some ⟨p, 0, none⟩), sunPicV h, .pointer (some ⟨r, 0, none⟩)] w fun e w' => SpxPost w w' p g r b d s h y e := by
  by_cases hn : h.n = 0
  · by_cases ht : h.typ = 2
    · exact sunPixels_none2 hh hn ht hsm h32 S0 L0 R0 B0 ok hr hzb
    · exact sunPixels_none0 hh hn ht hsm h32 S0 L0 R0 B0 ok hr hzb
  · by_cases ht : h.typ = 2
    · exact sunPixels_map2 hh (by omega) ht hsm h32 S0 L0 R0 B0 ok hr hzb
    · exact sunPixels_map0 hh (by omega) ht hsm h32 S0 L0 R0 B0 ok hr hzb
set_option maxRecDepth 100000 in
set_option maxHeartbeats 4000000 in
theorem sunDecodeC {w : World} {p g : Nat} {s : ByteArray} {y : Led} (S0 : SrcAt w p g s 0 s.size 0) (L0 : LedAt w g y) (hsm : s.size ≤ 1099511627776) (ok : y.Ok) (hr : y.reason = 0) :
    Calls Tryz.prog 16 #[.pointer (some ⟨p, 0, none⟩)] w fun e w' => DecPost 8 (sunDec s) y w w' p g e := by
  have F0 := FB.new w
  have S1 : SrcAt (w.alloc (.cells #[.int .i64 0, .int .i64 0, .int .i64 0] 31)) p g s 0 s.size 0 := Blk.alloc S0 _
  have L1 : LedAt (w.alloc (.cells #[.int .i64 0, .int .i64 0, .int .i64 0] 31)) g y := Blk.alloc L0 _
  have T1 : Turn [p, g] w (w.alloc (.cells #[.int .i64 0, .int .i64 0, .int .i64 0] 31)) := (Turn.refl _ _).alloc _
  have hpg : p ≠ g := S0.ne L0
  have nf : w.heap.size ∉ [p, g] := by have := Blk.lt S0; have := Blk.lt L0; simp; omega
  have HB := Lib.hid (sunBeginC hsm S1 L1 ok hr)
  have HSM := Lib.hid hsm
  have HF := Lib.hid F0
  have HT := Lib.hid T1
  have hsz1 : (w.alloc (.cells #[.int .i64 0, .int .i64 0, .int .i64 0] 31)).heap.size = w.heap.size + 1 := sz1 _ _
  clear S0 L0 hsm ok hr F0 S1 L1 T1
  go_enter Tryz.func16, Tryz.ntmps16
  go_upto_region 2 with (go_at_call 59; refine HB.out.mono ?_; rintro e w1 ⟨y1, l1, ok1, b1, t1, hor⟩; have F1 := FB.turn HF.out t1 nf; have T2 := HT.out.trans t1; simp only [sunPic0, sunPicV, fltV, flt0] at hor; rcases hor with ⟨kk, aa, hk, rfl, hrun, _⟩ | ⟨rfl, s1, yr1, h32, hh, hw1⟩; all_goals (try (have hkI : ¬ (kk : Int) = 0 := by omega)))
  · have hf1 := Blk.lt F1
    have e1 : (w1.alloc (.cells #[.int .i64 0, .int .i64 0, .int .i64 0, .int .i64 0, .int .i64 0] 97)).heap.size = w1.heap.size + 1 := sz1 _ _
    have F3 : FB ((w1.alloc (.cells #[.int .i64 0, .int .i64 0, .int .i64 0, .int .i64 0, .int .i64 0] 97)).alloc (.cells #[.int .i64 (kk : Int), .int .i64 8, .int .i64 (aa : Int)] 31)) w.heap.size 0 0 0 := Blk.alloc (Blk.alloc F1 _) _
    have G3 : FB ((w1.alloc (.cells #[.int .i64 0, .int .i64 0, .int .i64 0, .int .i64 0, .int .i64 0] 97)).alloc (.cells #[.int .i64 (kk : Int), .int .i64 8, .int .i64 (aa : Int)] 31)) (w1.heap.size + 1) (kk : Int) 8 (aa : Int) := Blk.new_at _ _ _ e1.symm
    have L3 : LedAt ((w1.alloc (.cells #[.int .i64 0, .int .i64 0, .int .i64 0, .int .i64 0, .int .i64 0] 97)).alloc (.cells #[.int .i64 (kk : Int), .int .i64 8, .int .i64 (aa : Int)] 31)) g y1 := Blk.alloc (Blk.alloc l1 _) _
    have T3 := (T2.alloc (.cells #[.int .i64 0, .int .i64 0, .int .i64 0, .int .i64 0, .int .i64 0] 97)).alloc (.cells #[.int .i64 (kk : Int), .int .i64 8, .int .i64 (aa : Int)] 31)
    have k1 : w.heap.size ≠ w1.heap.size + 1 := by omega
    go_upto_region 3 with fail
    generalize (w1.alloc (.cells #[.int .i64 0, .int .i64 0, .int .i64 0, .int .i64 0, .int .i64 0] 97)).alloc (.cells #[.int .i64 (kk : Int), .int .i64 8, .int .i64 (aa : Int)] 31) = w3 at F3 G3 L3 T3 ⊢
    generalize w1.heap.size + 1 = q at G3 k1 ⊢
    have k2 := k1.symm
    have hgf : g ≠ w.heap.size := Blk.ne_ L3 F3 (by decide)
    have HD := Lib.hid (And.intro L3 T3)
    obtain ⟨f0, f1, f2', z0, z1, z2, fl⟩ := FB.all F3
    obtain ⟨g0, g1, g2, o0, o1, o2, gl⟩ := FB.all G3
    clear F1 T2 F3 G3 L3 T3 l1 t1 hf1 e1
    go_region
    go_wp2_with fail
    exact bodyPost_ret (v := .tuple #[.pointer none, .agg #[.int .i64 (kk : Int), .int .i64 8, .int .i64 (aa : Int)]]) (by simp [results, Tryz.results16, go_sem, f0, f1, f2']) rfl ⟨y1, (Blk.st3 HD.out.1 hgf).drew, ok1, (Turn.st3 HD.out.2 (.inr (Nat.le_refl _))).drew, .inl ⟨kk, aa, hk, hrun, rfl⟩⟩
  · obtain ⟨_, hok, _, _⟩ := sunHead_none hh
    have hD : (sunDec s).run y = (sunBody s (sunHd s)).run y1 := by rw [sunDec_run_yes hw1, if_neg (by omega), hh]
    have hf1 := Blk.lt F1
    generalize sunHd s = h at hok hD ⊢
    have e1 : (w1.alloc (.cells #[.int .i64 (h.W : Int), .int .i64 (h.H : Int), .int .i64 (h.bits : Int), .int .i64 (h.typ : Int), .int .i64 (h.n : Int)] 97)).heap.size = w1.heap.size + 1 := sz1 _ _
    have F3 : FB ((w1.alloc (.cells #[.int .i64 (h.W : Int), .int .i64 (h.H : Int), .int .i64 (h.bits : Int), .int .i64 (h.typ : Int), .int .i64 (h.n : Int)] 97)).alloc (.cells #[.int .i64 0, .int .i64 0, .int .i64 0] 31)) w.heap.size 0 0 0 := Blk.alloc (Blk.alloc F1 _) _
    have P3 : Blk ((w1.alloc (.cells #[.int .i64 (h.W : Int), .int .i64 (h.H : Int), .int .i64 (h.bits : Int), .int .i64 (h.typ : Int), .int .i64 (h.n : Int)] 97)).alloc (.cells #[.int .i64 0, .int .i64 0, .int .i64 0] 31)) w1.heap.size 97 #[.int .i64 (h.W : Int), .int .i64 (h.H : Int), .int .i64 (h.bits : Int), .int .i64 (h.typ : Int), .int .i64 (h.n : Int)] := Blk.alloc (Blk.new _ _ _) _
    have G3 : FB ((w1.alloc (.cells #[.int .i64 (h.W : Int), .int .i64 (h.H : Int), .int .i64 (h.bits : Int), .int .i64 (h.typ : Int), .int .i64 (h.n : Int)] 97)).alloc (.cells #[.int .i64 0, .int .i64 0, .int .i64 0] 31)) (w1.heap.size + 1) 0 0 0 := Blk.new_at _ _ _ e1.symm
    have L3 : LedAt ((w1.alloc (.cells #[.int .i64 (h.W : Int), .int .i64 (h.H : Int), .int .i64 (h.bits : Int), .int .i64 (h.typ : Int), .int .i64 (h.n : Int)] 97)).alloc (.cells #[.int .i64 0, .int .i64 0, .int .i64 0] 31)) g y1 := Blk.alloc (Blk.alloc l1 _) _
    have S3 : SrcAt ((w1.alloc (.cells #[.int .i64 (h.W : Int), .int .i64 (h.H : Int), .int .i64 (h.bits : Int), .int .i64 (h.typ : Int), .int .i64 (h.n : Int)] 97)).alloc (.cells #[.int .i64 0, .int .i64 0, .int .i64 0] 31)) p g s 0 s.size 32 := Blk.alloc (Blk.alloc s1 _) _
    have T3 := (T2.alloc (.cells #[.int .i64 (h.W : Int), .int .i64 (h.H : Int), .int .i64 (h.bits : Int), .int .i64 (h.typ : Int), .int .i64 (h.n : Int)] 97)).alloc (.cells #[.int .i64 0, .int .i64 0, .int .i64 0] 31)
    have k1 : w.heap.size ≠ w1.heap.size + 1 := by omega
    have k3 : w.heap.size ≤ w1.heap.size + 1 := by omega
    go_upto_region 4 with fail
    generalize (w1.alloc (.cells #[.int .i64 (h.W : Int), .int .i64 (h.H : Int), .int .i64 (h.bits : Int), .int .i64 (h.typ : Int), .int .i64 (h.n : Int)] 97)).alloc (.cells #[.int .i64 0, .int .i64 0, .int .i64 0] 31) = w3 at F3 P3 G3 L3 S3 T3 ⊢
    generalize w1.heap.size + 1 = q at G3 k1 k3 ⊢
    generalize w1.heap.size = qp at P3 ⊢
    have k2 := k1.symm
    have HD := Lib.hid hD
    have HH := Lib.hid hok
    have HF3 := Lib.hid F3
    have HP3 := Lib.hid P3
    have HG3 := Lib.hid G3
    have HLS := Lib.hid (And.intro L3 (And.intro S3 T3))
    have HY := Lib.hid (And.intro ok1 (And.intro yr1 (And.intro b1 h32)))
    have c0 := Blk.cell P3 0
    have c1 := Blk.cell P3 1
    clear F1 T2 F3 P3 G3 L3 S3 T3 l1 s1 t1 hf1 e1 hD hok ok1 yr1 b1 h32 hw1
    refine wp_region_held_drew (S := (fun w' => w'.cell? ⟨qp, 0, none⟩ = some (.int .i64 (h.W : Int)) ∧ w'.cell? ⟨qp, 1, none⟩ = some (.int .i64 (h.H : Int)))) (by kernel_rfl) ⟨c0, c1⟩ (fun hHeld => ?_)
    refine wpAnyH_take (i := 0) (v := ?_) rfl (by kernel_rfl) (by kernel_rfl) (by kernel_rfl) (fun _ _ _ h => h) (Or.inl ⟨by kernel_rfl, ?_⟩) (by assumption) ?_
    rotate_left
    · intro w hSw; (try dsimp only at hSw); go_simp; (try with_reducible rfl)
    (try simp only [Act.put, List.setIfInBounds_toArray, List.set_cons_zero, List.set_cons_succ])
    refine wpAnyH_take (i := 2) (v := ?_) rfl (by kernel_rfl) (by kernel_rfl) (by kernel_rfl) (fun _ _ _ h => h) (Or.inl ⟨by kernel_rfl, ?_⟩) (by assumption) ?_
    rotate_left
    · intro w hSw; (try dsimp only at hSw); go_simp; (try with_reducible rfl)
    (try simp only [Act.put, List.setIfInBounds_toArray, List.set_cons_zero, List.set_cons_succ])
    refine wpAnyH_take (i := 3) (v := ?_) rfl (by kernel_rfl) (by kernel_rfl) (by kernel_rfl) (fun _ _ _ h => h) (Or.inl ⟨by kernel_rfl, ?_⟩) (by assumption) ?_
    rotate_left
    · intro w hSw; (try dsimp only at hSw); go_simp; (try with_reducible rfl)
    (try simp only [Act.put, List.setIfInBounds_toArray, List.set_cons_zero, List.set_cons_succ])
    refine wpAnyH_take (i := 4) (v := ?_) rfl (by kernel_rfl) (by kernel_rfl) (by kernel_rfl) (fun _ _ _ h => h) (Or.inl ⟨by kernel_rfl, ?_⟩) (by assumption) ?_
    rotate_left
    · intro w hSw; (try dsimp only at hSw); go_simp; (try with_reducible rfl)
    (try simp only [Act.put, List.setIfInBounds_toArray, List.set_cons_zero, List.set_cons_succ])
    refine wpAnyH_take (i := 5) (v := ?_) rfl (by kernel_rfl) (by kernel_rfl) (by kernel_rfl) (fun _ _ _ h => h) (Or.inl ⟨by kernel_rfl, ?_⟩) (by assumption) ?_
    rotate_left
    · intro w hSw; (try dsimp only at hSw); go_simp; (try with_reducible rfl)
    (try simp only [Act.put, List.setIfInBounds_toArray, List.set_cons_zero, List.set_cons_succ])
    refine wpAnyH_ready (rs := [1]) (by kernel_rfl) (by simp) ?_
    refine AllReadyH.cons rfl (fun K hK => ?_) AllReadyH.nil
    go_simp
    refine (srcLedger_at (Blk.drew HLS.out.2.1)).mono ?_
    rintro e w4 ⟨rfl, rfl⟩
    refine hK.out _ _ ⟨c0, c1⟩ (fun hHeld' => ?_)
    clear hK K hHeld
    have hHeld := hHeld'
    clear hHeld'
    (try simp only [Act.put, List.setIfInBounds_toArray, List.set_cons_zero, List.set_cons_succ])
    refine wpAnyH_ready (rs := [6]) (by kernel_rfl) (by simp) ?_
    refine AllReadyH.cons rfl (fun K hK => ?_) AllReadyH.nil
    go_simp
    refine (rasNew_ways 32 HH.out.w1 HH.out.w2 HH.out.h1 HH.out.h2 (Blk.drew HLS.out.1) HY.out.1 HY.out.2.1).mono ?_
    rintro e w5 ⟨y5, l5, ok5, t5, hor⟩
    have F5 : FB w5 w.heap.size 0 0 0 := FB.turn (Blk.drew HF3.out) t5 (by simpa using Blk.ne_ HF3.out HLS.out.1 (by decide))
    have P5 : Blk w5 qp 97 #[.int .i64 (h.W : Int), .int .i64 (h.H : Int), .int .i64 (h.bits : Int), .int .i64 (h.typ : Int), .int .i64 (h.n : Int)] := Blk.turn (Blk.drew HP3.out) t5 (by simpa using Blk.ne_ HP3.out HLS.out.1 (by decide))
    have G5 : FB w5 q 0 0 0 := FB.turn (Blk.drew HG3.out) t5 (by simpa using Blk.ne_ HG3.out HLS.out.1 (by decide))
    have S5 : SrcAt w5 p g s 0 s.size 32 := (SrcAt.drew' HLS.out.2.1).turn t5 (by simpa using hpg)
    have T5 := (HLS.out.2.2.drew).trans (t5.mono (S' := [p, g]) (by simp))
    have c0' := Blk.cell P5 0
    have c1' := Blk.cell P5 1
    have hsz5 := t5.size
    rcases hor with ⟨rfl, yr5, hno⟩ | ⟨r, b, d, rfl, hrn, hbn, hdn, R5, B5, yr5, yb5, hyes⟩
    · refine hK.out _ _ ⟨c0', c1'⟩ (fun hHeld' => ?_)
      clear hK K hHeld
      have hHeld := hHeld'
      clear hHeld'
      (try simp only [Act.put, List.setIfInBounds_toArray, List.set_cons_zero, List.set_cons_succ])
      refine wpAnyH_take (i := 7) (v := ?_) rfl (by kernel_rfl) (by kernel_rfl) (by kernel_rfl) (fun _ _ _ h => h) (Or.inl ⟨by kernel_rfl, ?_⟩) (by assumption) ?_
      rotate_left
      · intro w hSw; (try dsimp only at hSw); go_simp; (try with_reducible rfl)
      (try simp only [Act.put, List.setIfInBounds_toArray, List.set_cons_zero, List.set_cons_succ])
      refine wpAnyH_take (i := 8) (v := ?_) rfl (by kernel_rfl) (by kernel_rfl) (by kernel_rfl) (fun _ _ _ h => h) (Or.inl ⟨by kernel_rfl, ?_⟩) (by assumption) ?_
      rotate_left
      · intro w hSw; (try dsimp only at hSw); go_simp; (try with_reducible rfl)
      (try simp only [Act.put, List.setIfInBounds_toArray, List.set_cons_zero, List.set_cons_succ])
      refine wpAnyH_take (i := 9) (v := ?_) rfl (by kernel_rfl) (by kernel_rfl) (by kernel_rfl) (fun _ _ _ h => h) (Or.inl ⟨by kernel_rfl, ?_⟩) (by assumption) ?_
      rotate_left
      · intro w hSw; (try dsimp only at hSw); go_simp; (try with_reducible rfl)
      (try simp only [Act.put, List.setIfInBounds_toArray, List.set_cons_zero, List.set_cons_succ])
      refine wpAnyH_take (i := 10) (v := ?_) rfl (by kernel_rfl) (by kernel_rfl) (by kernel_rfl) (fun _ _ _ h => h) (Or.inl ⟨by kernel_rfl, ?_⟩) (by assumption) ?_
      rotate_left
      · intro w hSw; (try dsimp only at hSw); go_simp; (try with_reducible rfl)
      (try simp only [Act.put, List.setIfInBounds_toArray, List.set_cons_zero, List.set_cons_succ])
      refine wpAnyH_take (i := 11) (v := ?_) rfl (by kernel_rfl) (by kernel_rfl) (by kernel_rfl) (fun _ _ _ h => h) (Or.inl ⟨by kernel_rfl, ?_⟩) (by assumption) ?_
      rotate_left
      · intro w hSw; (try dsimp only at hSw); go_simp; (try with_reducible rfl)
      (try simp only [Act.put, List.setIfInBounds_toArray, List.set_cons_zero, List.set_cons_succ])
      refine wpAnyH_done (by kernel_rfl) ?_ _
      (try simp only [List.getElem_toArray, List.getElem_cons_succ, List.getElem_cons_zero, List.set_cons_zero, List.set_cons_succ])
      clear hHeld
      have HN := Lib.hid (And.intro yr5 hno)
      have HS5 := Lib.hid S5
      have HL5 := Lib.hid l5
      have HF5 := Lib.hid F5
      have HT5 := Lib.hid T5
      clear yr5 hno S5 l5 F5 T5 P5 G5 c0 c1 c0' c1' t5 hsz5
      go_wp2_with (go_at_call 61; refine (srcFault_is 8 HS5.out HL5.out (.inl ⟨HN.out.1, rfl, rfl⟩)).mono ?_; rintro e w6 ⟨rfl, b6⟩; have l6 := Blk.below HL5.out b6 (Blk.lt HL5.out); have F6 := FB.below HF5.out b6; have T6 := HT5.out.trans (Turn.of_below (S := [p, g]) b6); obtain ⟨f0, f1, f2', z0, z1, z2, fl⟩ := FB.all F6)
      exact bodyPost_ret (v := .tuple #[.pointer none, .agg #[.int .i64 4, .int .i64 8, .int .i64 32]]) (by simp [results, Tryz.results16, go_sem, f0, f1, f2']) rfl ⟨y5, Blk.st3 l6 (Blk.ne_ l6 F6 (by decide)), ok5, Turn.st3 T6 (.inr (Nat.le_refl _)), .inl ⟨4, 32, by decide, by rw [HD.out]; exact HN.out.2 _, rfl⟩⟩
    · refine hK.out _ _ ⟨c0', c1'⟩ (fun hHeld' => ?_)
      clear hK K hHeld
      have hHeld := hHeld'
      clear hHeld'
      (try simp only [Act.put, List.setIfInBounds_toArray, List.set_cons_zero, List.set_cons_succ])
      refine wpAnyH_take (i := 7) (v := ?_) rfl (by kernel_rfl) (by kernel_rfl) (by kernel_rfl) (fun _ _ _ h => h) (Or.inl ⟨by kernel_rfl, ?_⟩) (by assumption) ?_
      rotate_left
      · intro w hSw; (try dsimp only at hSw); go_simp; (try with_reducible rfl)
      (try simp only [Act.put, List.setIfInBounds_toArray, List.set_cons_zero, List.set_cons_succ])
      refine wpAnyH_take (i := 8) (v := ?_) rfl (by kernel_rfl) (by kernel_rfl) (by kernel_rfl) (fun _ _ _ h => h) (Or.inl ⟨by kernel_rfl, ?_⟩) (by assumption) ?_
      rotate_left
      · intro w hSw; (try dsimp only at hSw); go_simp; (try with_reducible rfl)
      (try simp only [Act.put, List.setIfInBounds_toArray, List.set_cons_zero, List.set_cons_succ])
      refine wpAnyH_take (i := 9) (v := ?_) rfl (by kernel_rfl) (by kernel_rfl) (by kernel_rfl) (fun _ _ _ h => h) (Or.inl ⟨by kernel_rfl, ?_⟩) (by assumption) ?_
      rotate_left
      · intro w hSw; (try dsimp only at hSw); go_simp; (try with_reducible rfl)
      (try simp only [Act.put, List.setIfInBounds_toArray, List.set_cons_zero, List.set_cons_succ])
      refine wpAnyH_take (i := 10) (v := ?_) rfl (by kernel_rfl) (by kernel_rfl) (by kernel_rfl) (fun _ _ _ h => h) (Or.inl ⟨by kernel_rfl, ?_⟩) (by assumption) ?_
      rotate_left
      · intro w hSw; (try dsimp only at hSw); go_simp; (try with_reducible rfl)
      (try simp only [Act.put, List.setIfInBounds_toArray, List.set_cons_zero, List.set_cons_succ])
      refine wpAnyH_take (i := 11) (v := ?_) rfl (by kernel_rfl) (by kernel_rfl) (by kernel_rfl) (fun _ _ _ h => h) (Or.inl ⟨by kernel_rfl, ?_⟩) (by assumption) ?_
      rotate_left
      · intro w hSw; (try dsimp only at hSw); go_simp; (try with_reducible rfl)
      (try simp only [Act.put, List.setIfInBounds_toArray, List.set_cons_zero, List.set_cons_succ])
      refine wpAnyH_done (by kernel_rfl) ?_ _
      (try simp only [List.getElem_toArray, List.getElem_cons_succ, List.getElem_cons_zero, List.set_cons_zero, List.set_cons_succ])
      clear hHeld
      have hyb : ((4 * (h.W * h.H) : Nat) : Int) ≤ y5.bytes := by rw [yb5]; have := HY.out.1.y0; omega
      have B5' : BufAt w5 b g d (pixL [] (4 * (h.W * h.H))) := by rw [pixL_nil]; exact B5
      have HX := Lib.hid (sunPixelsC HH.out HSM.out HY.out.2.2.2 S5 l5 R5 B5' ok5 yr5 hyb)
      unfold sunPicV at HX
      have HYE := Lib.hid hyes
      have HYB := Lib.hid (And.intro yb5 hyb)
      have HF5 := Lib.hid F5
      have HG5 := Lib.hid G5
      have HT5 := Lib.hid T5
      have HR5 := Lib.hid (And.intro R5 (And.intro B5 l5))
      have HS5 := Lib.hid S5
      have p0 := Blk.cell P5 0
      have p1 := Blk.cell P5 1
      have p2 := Blk.cell P5 2
      have p3 := Blk.cell P5 3
      have p4 := Blk.cell P5 4
      have hwz : w.heap.size ≤ w3.heap.size := HLS.out.2.2.size
      have hwz5 : w3.heap.size ≤ w5.heap.size := hsz5
      have hrn' : w3.heap.size ≤ r := hrn
      have hbn' : w3.heap.size ≤ b := hbn
      have hdn' : w3.heap.size ≤ d := hdn
      clear hyes yb5 hyb F5 G5 T5 R5 B5 B5' l5 S5 P5 c0 c1 c0' c1' t5 hsz5 hrn hbn hdn
      go_upto_region 8 with (go_at_call 62; refine HX.out.mono ?_; rintro e w6 ⟨y6, L6, l6, ok6, b6, t6, B6, len6, hor⟩; have n1 : w.heap.size ∉ [p, g, d] := (by simp only [List.mem_cons, List.not_mem_nil, or_false, not_or]; exact ⟨Blk.ne_ HF5.out HS5.out (by decide), Blk.ne_ HF5.out HR5.out.2.2 (by decide), Blk.ne_ HF5.out HR5.out.2.1.row (by decide)⟩); have n2 : q ∉ [p, g, d] := (by simp only [List.mem_cons, List.not_mem_nil, or_false, not_or]; exact ⟨Blk.ne_ HG5.out HS5.out (by decide), Blk.ne_ HG5.out HR5.out.2.2 (by decide), Blk.ne_ HG5.out HR5.out.2.1.row (by decide)⟩); have n3 : r ∉ [p, g, d] := (by simp only [List.mem_cons, List.not_mem_nil, or_false, not_or]; exact ⟨Blk.ne_ HR5.out.1 HS5.out (by decide), Blk.ne_ HR5.out.1 HR5.out.2.2 (by decide), Blk.ne_ HR5.out.1 HR5.out.2.1.row (by decide)⟩); have F6 := FB.turn HF5.out t6 n1; have G6 := FB.turn HG5.out t6 n2; have R6 : RasAt w6 r g b (h.W : Int) (h.H : Int) true := Blk.turn HR5.out.1 t6 n3; have T6 : Turn [p, g] w w6 := HT5.out.next t6 (by intro i hi; simp only [List.mem_cons, List.not_mem_nil, or_false] at hi ⊢; omega); obtain ⟨g0, g1, g2, o0, o1, o2, gl⟩ := FB.all G6; simp only [fltV, flt0] at hor; rcases hor with ⟨kk, aa, hk, rfl, hrun⟩ | ⟨rfl, hL6, hrun⟩; all_goals (try (have hkI : ¬ (kk : Int) = 0 := by omega)))
      · generalize hw7 : ((w6.setCell ⟨q, 0, none⟩ (.int .i64 (kk : Int))).setCell ⟨q, 1, none⟩ (.int .i64 8)).setCell ⟨q, 2, none⟩ (.int .i64 (aa : Int)) = w7
        have F7 : FB w7 w.heap.size 0 0 0 := by rw [← hw7]; exact Blk.st3 F6 k1
        have G7 : FB w7 q (kk : Int) 8 (aa : Int) := by rw [← hw7]; exact FB.st3 G6
        have R7 : RasAt w7 r g b (h.W : Int) (h.H : Int) true := by rw [← hw7]; exact Blk.st3 R6 (Blk.ne_ R6 G6 (by decide))
        have B7 : BufAt w7 b g d (pixL L6 (4 * (h.W * h.H))) := by rw [← hw7]; exact ⟨Blk.st3 B6.blk (Blk.ne_ B6.blk G6 (by decide)), Blk.st3 B6.row (Blk.ne_ B6.row G6 (by decide))⟩
        have L7 : LedAt w7 g y6 := by rw [← hw7]; exact Blk.st3 l6 (Blk.ne_ l6 G6 (by decide))
        have T7 : Turn [p, g] w w7 := by rw [← hw7]; exact Turn.st3 T6 (.inr k3)
        clear hw7 F6 G6 R6 B6 l6 T6 t6 g0 g1 g2 o0 o1 o2 gl p0 p1 p2 p3 p4
        obtain ⟨f0, f1, f2', z0, z1, z2, fl⟩ := FB.all F7
        obtain ⟨g0, g1, g2, o0, o1, o2, gl⟩ := FB.all G7
        have HLZ := Lib.hid (pixL_len len6)
        have hz : ((4 * (h.W * h.H) : Nat) : Int) ≤ y6.bytes := by rw [b6]; exact HYB.out.2
        have HFR := Lib.hid (rasFree_yes R7 B7 L7 ok6 (give_all (pixL_len len6) hz))
        have HF7 := Lib.hid F7
        have HG7 := Lib.hid G7
        have nr : ∀ {tt : TypeId} {cs : Array Value} {k : Nat}, Blk w7 k tt cs → tt ≠ 182 → tt ≠ 251 → tt ≠ 121 → k ∉ [r, b, g] := fun hb h1 h2 h3 => by simp only [List.mem_cons, List.not_mem_nil, or_false, not_or]; exact ⟨Blk.ne_ hb R7 h1, Blk.ne_ hb B7.blk h2, Blk.ne_ hb L7 h3⟩
        have nF := nr F7 (by decide) (by decide) (by decide)
        have nG := nr G7 (by decide) (by decide) (by decide)
        have HT7 := Lib.hid T7
        have hrn2 : w.heap.size ≤ r := by omega
        have hbn2 : w.heap.size ≤ b := by omega
        clear nr F7 G7 R7 B7 L7 T7
        go_upto_region 10 with (go_at_call 63; refine HFR.out.mono ?_; rintro e w8 ⟨rfl, r8, b8, l8, t8⟩; clear r8 b8; have F8 := FB.turn HF7.out t8 nF; have G8 := FB.turn HG7.out t8 nG; have T8 : Turn [p, g] w w8 := HT7.out.next t8 (by intro i hi; simp only [List.mem_cons, List.not_mem_nil, or_false] at hi ⊢; omega); clear f0 f1 f2' z0 z1 z2 fl g0 g1 g2 o0 o1 o2 gl; obtain ⟨f0, f1, f2', z0, z1, z2, fl⟩ := FB.all F8; obtain ⟨g0, g1, g2, o0, o1, o2, gl⟩ := FB.all G8)
        have hgf : g ≠ w.heap.size := Blk.ne_ l8 F8 (by decide)
        have HD8 := Lib.hid (And.intro l8 T8)
        clear F8 G8 l8 T8 t8
        go_region
        go_wp2_with fail
        exact bodyPost_ret (v := .tuple #[.pointer none, .agg #[.int .i64 (kk : Int), .int .i64 8, .int .i64 (aa : Int)]]) (by simp [results, Tryz.results16, go_sem, f0, f1, f2']) rfl ⟨_, (Blk.st3 HD8.out.1 hgf).drew, ok6.give _, (Turn.st3 HD8.out.2 (.inr (Nat.le_refl _))).drew, .inl ⟨kk, aa, hk, by rw [HD.out]; exact (HYE.out _).trans hrun, rfl⟩⟩
      · generalize hw7 : ((w6.setCell ⟨q, 0, none⟩ (.int .i64 0)).setCell ⟨q, 1, none⟩ (.int .i64 0)).setCell ⟨q, 2, none⟩ (.int .i64 0) = w7
        have F7 : FB w7 w.heap.size 0 0 0 := by rw [← hw7]; exact Blk.st3 F6 k1
        have G7 : FB w7 q 0 0 0 := by rw [← hw7]; exact FB.st3 G6
        have R7 : RasAt w7 r g b (h.W : Int) (h.H : Int) true := by rw [← hw7]; exact Blk.st3 R6 (Blk.ne_ R6 G6 (by decide))
        have B7 : BufAt w7 b g d (pixL L6 (4 * (h.W * h.H))) := by rw [← hw7]; exact ⟨Blk.st3 B6.blk (Blk.ne_ B6.blk G6 (by decide)), Blk.st3 B6.row (Blk.ne_ B6.row G6 (by decide))⟩
        have L7 : LedAt w7 g y6 := by rw [← hw7]; exact Blk.st3 l6 (Blk.ne_ l6 G6 (by decide))
        have T7 : Turn [p, g] w w7 := by rw [← hw7]; exact Turn.st3 T6 (.inr k3)
        clear hw7 F6 G6 R6 B6 l6 T6 t6 g0 g1 g2 o0 o1 o2 gl p0 p1 p2 p3 p4
        obtain ⟨f0, f1, f2', z0, z1, z2, fl⟩ := FB.all F7
        obtain ⟨g0, g1, g2, o0, o1, o2, gl⟩ := FB.all G7
        have hgf : g ≠ w.heap.size := Blk.ne_ L7 F7 (by decide)
        have hrf : r ≠ w.heap.size := Blk.ne_ R7 F7 (by decide)
        have hbf : b ≠ w.heap.size := Blk.ne_ B7.blk F7 (by decide)
        have hdf : d ≠ w.heap.size := Blk.ne_ B7.row F7 (by decide)
        have e6 : pixL L6 (4 * (h.W * h.H)) = flat L6 := pixL_all (by rw [hL6])
        rw [e6] at B7
        have HD8 := Lib.hid (And.intro L7 (And.intro T7 (And.intro R7 B7)))
        clear F7 G7 R7 B7 L7 T7
        go_wp2_with fail
        exact bodyPost_ret (v := .tuple #[.pointer (some ⟨r, 0, none⟩), .agg #[.int .i64 0, .int .i64 0, .int .i64 0]]) (by simp [results, Tryz.results16, go_sem, f0, f1, f2']) rfl ⟨y6, Blk.st3 HD8.out.1 hgf, ok6, Turn.st3 HD8.out.2.1 (.inr (Nat.le_refl _)), .inr ⟨h.W, h.H, flat L6, r, b, d, by rw [HD.out]; exact (HYE.out _).trans hrun, rfl, Blk.st3 HD8.out.2.2.1 hrf, ⟨Blk.st3 HD8.out.2.2.2.blk hbf, Blk.st3 HD8.out.2.2.2.row hdf⟩, by omega, by omega, by omega⟩⟩
end Go.Proofs.YtccldalagbfmhaaGreat
