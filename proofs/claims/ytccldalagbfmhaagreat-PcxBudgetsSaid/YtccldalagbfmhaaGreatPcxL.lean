/- pcx: the reading of pixels is left: what is kept is given back. -/
import Derived.Test.YtccldalagbfmhaaGreatPcxK
namespace Go.Proofs.YtccldalagbfmhaaGreat
open Go.RowKit
set_option linter.unusedVariables false
set_option linter.unusedSimpArgs false

def POut (s : ByteArray) (h : PcxHd) (Lq : List Qc) (m : Nat) (y0 y : Led) (v : Value) : Prop :=
  (∃ kk aa : Nat, kk ≠ 0 ∧ v = pFlt kk aa ∧ (pcxPix s h (4 * (h.W * h.H))).run y0 = ((y.give ((4 * (h.W * h.H) + m : Nat) : Int)).1, .bad kk aa)) ∨
  (v = pFlt0 ∧ Lq.length = h.W * h.H ∧ (pcxPix s h (4 * (h.W * h.H))).run y0 = ((y.give (m : Int)).1, .img h.W h.H (flat Lq)))
section
variable {w0 w : World} {p g r b d f l lb ld bb dd : Nat} {s : ByteArray} {h : PcxHd} {k1 k2 k3 : Int} {Lq : List Qc} {y0 y : Led} {v : Value}
theorem PL.leave1 {fn : Func} {a : Act} {fv : Fn} {cap dargs : Array Value} (hM : ¬ h.Map) (hd : a.defers = [{ target := .fn fv cap, args := dargs }]) (hi : ∀ w, (invoke (.fn fv cap) dargs).run Tryz.prog w = .ok (.enter 142 #[.pointer (some ⟨bb, 0, none⟩)]) w)
    (hr : ∀ w', FB w' f k1 k2 k3 → (results fn a.tmps).run Tryz.prog w' = .ok v w') (I : PL w0 w p g b d f l lb ld bb dd s h k1 k2 k3 Lq h.row y0 y) (ho : POut s h Lq h.row y0 y v) : bodyPostN Tryz.prog fn (fun e w' => PPxPost w0 w' p g r b d s h y0 e) .ret a w := by
  obtain ⟨R, hB, hR⟩ := I.X
  have hy := I.yb
  have h0 := I.y0b
  have hg := give_all hR (show ((h.row : Nat) : Int) ≤ y.bytes by omega)
  have hgv := led_give_yes (x := y) (n := ((h.row : Nat) : Int)) (by omega) (by omega)
  refine pleaves_one hd (hi w) ((bufFreeD hB I.L I.yok hg).mono ?_)
  rintro e u' w9 ⟨rfl, rfl, l9, t9⟩
  have e1 := I.nb
  have e2 := I.ob
  have e3 := I.od
  have F9 := I.F.turn t9 (by simp only [List.mem_cons, List.not_mem_nil, or_false, not_or]; exact ⟨Blk.ne_ I.F hB.blk (by decide), Blk.ne_ I.F I.L (by decide)⟩)
  have B9 := I.B.turn t9 (by simp only [List.mem_cons, List.not_mem_nil, or_false, not_or]; exact ⟨by omega, Blk.ne_ I.B.blk I.L (by decide)⟩) (by simp only [List.mem_cons, List.not_mem_nil, or_false, not_or]; exact ⟨Blk.ne_ I.B.row hB.blk (by decide), Blk.ne_ I.B.row I.L (by decide)⟩)
  refine ⟨rfl, _, rfl, v, hr w9 F9, _, Lq, l9, I.yok.give _, by rw [hgv]; show y.bytes - _ = _; omega, I.T.next t9 (by intro i hi; simp only [List.mem_cons, List.not_mem_nil, or_false] at hi ⊢; omega), B9, I.len, ?_⟩
  rcases ho with ⟨kk, aa, hk, rfl, hrun⟩ | ⟨rfl, hl, hrun⟩
  · exact .inl ⟨kk, aa, hk, rfl, by rw [hrun, give_give (by omega)]⟩
  · exact .inr ⟨rfl, hl, hrun⟩
theorem PL.leave2 {fn : Func} {a : Act} {fv1 fv2 : Fn} {cap1 dargs1 cap2 dargs2 : Array Value} (hM : h.Map) (hd : a.defers = [{ target := .fn fv1 cap1, args := dargs1 }, { target := .fn fv2 cap2, args := dargs2 }]) (hi : ∀ w, (invoke (.fn fv1 cap1) dargs1).run Tryz.prog w = .ok (.enter 142 #[.pointer (some ⟨bb, 0, none⟩)]) w)
    (hi2 : ∀ w, (invoke (.fn fv2 cap2) dargs2).run Tryz.prog w = .ok (.enter 99 #[.pointer (some ⟨l, 0, none⟩)]) w)
    (hr : ∀ w', FB w' f k1 k2 k3 → (results fn a.tmps).run Tryz.prog w' = .ok v w') (I : PL w0 w p g b d f l lb ld bb dd s h k1 k2 k3 Lq (1024 + h.row) y0 y) (ho : POut s h Lq (1024 + h.row) y0 y v) : bodyPostN Tryz.prog fn (fun e w' => PPxPost w0 w' p g r b d s h y0 e) .ret a w := by
  obtain ⟨R, hB, hR⟩ := I.X
  obtain ⟨PH, n1, n2, n3⟩ := I.M hM
  have hy := I.yb
  have h0 := I.y0b
  have hg := give_all hR (show ((h.row : Nat) : Int) ≤ y.bytes by omega)
  have hgv := led_give_yes (x := y) (n := ((h.row : Nat) : Int)) (by omega) (by omega)
  obtain ⟨y1, hy1⟩ : ∃ y1, (y.give ((h.row : Nat) : Int)).1 = y1 := ⟨_, rfl⟩
  rw [hy1] at hg hgv
  have hb1 : y1.bytes = y0.bytes + 1024 := by rw [hgv]; show y.bytes - _ = _; omega
  have ok1 : y1.Ok := by rw [← hy1]; exact I.yok.give _
  refine pleaves_two (f2 := 99) (args2 := #[.pointer (some ⟨l, 0, none⟩)]) hd (hi w) ((bufFreeD hB I.L I.yok hg).mono ?_)
  rintro e u' w8 ⟨rfl, rfl, l8, t8⟩
  have e1 := I.nb
  have e2 := I.ob
  have e3 := I.od
  have e4 := I.nf
  have e5 := (I.nm hM).1
  have F8 := I.F.turn t8 (by simp only [List.mem_cons, List.not_mem_nil, or_false, not_or]; exact ⟨Blk.ne_ I.F hB.blk (by decide), Blk.ne_ I.F I.L (by decide)⟩)
  have B8 := I.B.turn t8 (by simp only [List.mem_cons, List.not_mem_nil, or_false, not_or]; exact ⟨by omega, Blk.ne_ I.B.blk I.L (by decide)⟩) (by simp only [List.mem_cons, List.not_mem_nil, or_false, not_or]; exact ⟨Blk.ne_ I.B.row hB.blk (by decide), Blk.ne_ I.B.row I.L (by decide)⟩)
  have P8 : PalHas w8 l lb g ld 256 (pcxMapL s) := by
    have h2 := PH.led I.L
    obtain ⟨q1, _, rest, q3, _⟩ := id PH
    refine PH.turn t8 ?_ ?_ ?_
    all_goals simp only [List.mem_cons, List.not_mem_nil, or_false, not_or]
    · exact ⟨Blk.ne_ q1 hB.blk (by decide), h2.1⟩
    · exact ⟨e5, h2.2.1⟩
    · exact ⟨Blk.ne_ q3.row hB.blk (by decide), h2.2.2⟩
  have T8 : Turn [p, g, d] w0 w8 := I.T.next t8 (by intro i hi; simp only [List.mem_cons, List.not_mem_nil, or_false] at hi ⊢; omega)
  obtain ⟨n', m', l', PA, PB', hlen⟩ := pal_fullP P8
  have hg2 := give_all hlen (show ((4 * 256 : Nat) : Int) ≤ y1.bytes by omega)
  have hgv2 := led_give_yes (x := y1) (n := ((4 * 256 : Nat) : Int)) (by omega) (by omega)
  refine ⟨rfl, _, rfl, hi2 w8, (ppalFreeD PA PB' l8 ok1 hg2).mono ?_⟩
  rintro e u' w9 ⟨rfl, rfl, l9, t9⟩
  have F9 := F8.turn t9 (by simp only [List.mem_cons, List.not_mem_nil, or_false, not_or]; exact ⟨Blk.ne_ F8 PA (by decide), Blk.ne_ F8 PB'.blk (by decide), Blk.ne_ F8 l8 (by decide)⟩)
  have B9 := B8.turn t9 (by simp only [List.mem_cons, List.not_mem_nil, or_false, not_or]; exact ⟨Blk.ne_ B8.blk PA (by decide), by omega, Blk.ne_ B8.blk l8 (by decide)⟩) (by simp only [List.mem_cons, List.not_mem_nil, or_false, not_or]; exact ⟨Blk.ne_ B8.row PA (by decide), Blk.ne_ B8.row PB'.blk (by decide), Blk.ne_ B8.row l8 (by decide)⟩)
  refine ⟨rfl, _, rfl, v, hr w9 F9, _, Lq, l9, ok1.give _, by rw [hgv2]; show y1.bytes - _ = _; omega, T8.next t9 (by intro i hi; simp only [List.mem_cons, List.not_mem_nil, or_false] at hi ⊢; omega), B9, I.len, ?_⟩
  have hgg : (y.give ((1024 + h.row : Nat) : Int)).1 = (y1.give ((4 * 256 : Nat) : Int)).1 := by rw [← hy1]; exact (give_give (m := h.row) (n := 4 * 256) (by omega)).symm
  rcases ho with ⟨kk, aa, hk, rfl, hrun⟩ | ⟨rfl, hl, hrun⟩
  · refine .inl ⟨kk, aa, hk, rfl, ?_⟩
    rw [hrun, ← hgg, give_give (by omega)]
  · exact .inr ⟨rfl, hl, by rw [hrun, hgg]⟩
end
theorem PM.pick {w0 w w' : World} {p g r b d f q l lb ld : Nat} {s : ByteArray} {h : PcxHd} {fv fv' : Value} {Lq : List Qc} {y : Led} (I : PM w0 w p g r b d f q l lb ld s h fv Lq y) (k : Turn [q] w w') (Q' : Blk w' q 145 (pcxCsF s h fv')) : PM w0 w' p g r b d f q l lb ld s h fv' Lq y := by
  have n : ∀ {i : Nat} {ti : TypeId} {ci : Array Value}, Blk w i ti ci → ti ≠ 145 → i ∉ [q] := fun hb hne => by simpa using Blk.ne_ hb I.Q hne
  refine ⟨Blk.turn I.S k (n I.S (by decide)), Blk.turn I.L k (n I.L (by decide)), Blk.turn I.R k (n I.R (by decide)), I.B.turn k (n I.B.blk (by decide)) (n I.B.row (by decide)), I.F.turn k (n I.F (by decide)), Q', fun hM => ?_, I.T.next k (by intro i hi; rw [List.mem_singleton] at hi; subst hi; exact .inr I.nq), I.nf, I.nq, I.ob, I.od, I.op⟩
  obtain ⟨P, n1⟩ := I.M hM
  obtain ⟨k1, _, rest, k3, _⟩ := id P
  exact ⟨P.turn k (n k1 (by decide)) (n k3.blk (by decide)) (n k3.row (by decide)), n1⟩
theorem PM.new {w : World} {p g r b d : Nat} {s : ByteArray} {h : PcxHd} {y : Led} (hM : ¬ h.Map ∨ True) (S0 : SrcAt w p g s 0 s.size 128) (L0 : LedAt w g y) (R0 : RasAt w r g b (h.W : Int) (h.H : Int) true) (B0 : BufAt w b g d (pixL [] (4 * (h.W * h.H)))) :
    SrcAt ((w.alloc (.cells #[.int .i64 (h.W : Int), .int .i64 (h.H : Int), .int .i64 (h.bits : Int), .int .i64 (h.planes : Int), .int .i64 (h.line : Int), .string (s.extract 16 64), .nilFunc] 145)).alloc (.cells #[.int .i64 0, .int .i64 0, .int .i64 0] 31)) p g s 0 s.size 128 ∧ LedAt ((w.alloc (.cells #[.int .i64 (h.W : Int), .int .i64 (h.H : Int), .int .i64 (h.bits : Int), .int .i64 (h.planes : Int), .int .i64 (h.line : Int), .string (s.extract 16 64), .nilFunc] 145)).alloc (.cells #[.int .i64 0, .int .i64 0, .int .i64 0] 31)) g y ∧ RasAt ((w.alloc (.cells #[.int .i64 (h.W : Int), .int .i64 (h.H : Int), .int .i64 (h.bits : Int), .int .i64 (h.planes : Int), .int .i64 (h.line : Int), .string (s.extract 16 64), .nilFunc] 145)).alloc (.cells #[.int .i64 0, .int .i64 0, .int .i64 0] 31)) r g b (h.W : Int) (h.H : Int) true ∧ BufAt ((w.alloc (.cells #[.int .i64 (h.W : Int), .int .i64 (h.H : Int), .int .i64 (h.bits : Int), .int .i64 (h.planes : Int), .int .i64 (h.line : Int), .string (s.extract 16 64), .nilFunc] 145)).alloc (.cells #[.int .i64 0, .int .i64 0, .int .i64 0] 31)) b g d (pixL [] (4 * (h.W * h.H))) ∧ FB ((w.alloc (.cells #[.int .i64 (h.W : Int), .int .i64 (h.H : Int), .int .i64 (h.bits : Int), .int .i64 (h.planes : Int), .int .i64 (h.line : Int), .string (s.extract 16 64), .nilFunc] 145)).alloc (.cells #[.int .i64 0, .int .i64 0, .int .i64 0] 31)) (w.heap.size + 1) 0 0 0 ∧ Blk ((w.alloc (.cells #[.int .i64 (h.W : Int), .int .i64 (h.H : Int), .int .i64 (h.bits : Int), .int .i64 (h.planes : Int), .int .i64 (h.line : Int), .string (s.extract 16 64), .nilFunc] 145)).alloc (.cells #[.int .i64 0, .int .i64 0, .int .i64 0] 31)) w.heap.size 145 (pcxCsF s h .nilFunc) ∧ Turn [p, g, d] w ((w.alloc (.cells #[.int .i64 (h.W : Int), .int .i64 (h.H : Int), .int .i64 (h.bits : Int), .int .i64 (h.planes : Int), .int .i64 (h.line : Int), .string (s.extract 16 64), .nilFunc] 145)).alloc (.cells #[.int .i64 0, .int .i64 0, .int .i64 0] 31)) :=
  ⟨Blk.alloc (Blk.alloc S0 _) _, Blk.alloc (Blk.alloc L0 _) _, Blk.alloc (Blk.alloc R0 _) _, ⟨Blk.alloc (Blk.alloc B0.blk _) _, Blk.alloc (Blk.alloc B0.row _) _⟩, Blk.new_at _ _ _ (by simp), Blk.alloc (Blk.new _ _ _) _, ((Turn.refl _ _).alloc _).alloc _⟩
/-- what behind the making of a row's buffer holds -/
def Mk8 (w0 w : World) (p g r b d f q l lb ld rb bb dd : Nat) (s : ByteArray) (h : PcxHd) (y : Led) : Prop :=
  PM w0 w p g r b d f q l lb ld s h .nilFunc [] y ∧ Blk w rb 178 #[.pointer (some ⟨bb, 0, none⟩)] ∧ BufAt w bb g dd (List.replicate h.row 0) ∧ w0.heap.size ≤ rb ∧ w0.heap.size ≤ bb ∧ w0.heap.size ≤ dd ∧ (h.Map → lb ≠ bb ∧ ld ≠ dd)
theorem Mk8.late {w0 w : World} {p g r b d f q l lb ld bb dd : Nat} {s : ByteArray} {h : PcxHd} {y : Led} (I : PM w0 w p g r b d f q l lb ld s h .nilFunc [] y) (BB : BufAt w bb g dd (List.replicate h.row 0)) (nb : w0.heap.size ≤ bb) (nd : w0.heap.size ≤ dd) (nm : h.Map → lb ≠ bb ∧ ld ≠ dd) : Mk8 w0 (w.alloc (.cells #[.pointer (some ⟨bb, 0, none⟩)] 178)) p g r b d f q l lb ld w.heap.size bb dd s h y :=
  ⟨I.alloc _, Blk.new _ _ _, ⟨Blk.alloc BB.blk _, Blk.alloc BB.row _⟩, I.T.size, nb, nd, nm⟩
theorem Mk8.early {w0 w : World} {p g r b d f q l lb ld rb bb dd : Nat} {s : ByteArray} {h : PcxHd} {y : Led} (I : PM w0 w p g r b d f q l lb ld s h .nilFunc [] y) (X : Blk w rb 178 #[.pointer none]) (nr : w0.heap.size ≤ rb) (hf : f ≠ rb) (BB : BufAt w bb g dd (List.replicate h.row 0)) (nb : w0.heap.size ≤ bb) (nd : w0.heap.size ≤ dd) (nm : h.Map → lb ≠ bb ∧ ld ≠ dd) : Mk8 w0 (w.setCell ⟨rb, 0, none⟩ (.pointer (some ⟨bb, 0, none⟩))) p g r b d f q l lb ld rb bb dd s h y :=
  ⟨I.own ((Turn.refl [rb] _).set_ 0 _ (.inl (by simp))) X nr (by decide) (by decide) (by decide) (by decide) (by decide) (by decide) (by decide) hf, (Blk.set_ X 0 _).eq_ (by simp), ⟨Blk.far BB.blk (p := ⟨rb, 0, none⟩) (Blk.ne_ BB.blk X (by decide)) _, Blk.far BB.row (p := ⟨rb, 0, none⟩) (Blk.ne_ BB.row X (by decide)) _⟩, nr, nb, nd, nm⟩
end Go.Proofs.YtccldalagbfmhaaGreat
