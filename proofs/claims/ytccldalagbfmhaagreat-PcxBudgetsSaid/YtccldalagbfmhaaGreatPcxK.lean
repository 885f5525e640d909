/- pcx: what the reading of pixels holds; how it is left. -/
import Derived.Test.YtccldalagbfmhaaGreatPcxE
import Derived.Test.YtccldalagbfmhaaGreatPcxI
import Derived.Test.YtccldalagbfmhaaGreatPcxJ
import Derived.Defers
namespace Go.Proofs.YtccldalagbfmhaaGreat
open Go.RowKit
set_option linter.unusedVariables false
set_option linter.unusedSimpArgs false

/-- bytes that are kept beside the raster's -/
def PcxHd.more (h : PcxHd) : Nat := if h.Map then 1024 + h.row else h.row
/-- the source, the ledger, the raster and its bytes, the fault's box, the picture's, the map -/
structure PM (w0 w : World) (p g r b d f q l lb ld : Nat) (s : ByteArray) (h : PcxHd) (fv : Value) (Lq : List Qc) (y : Led) : Prop where
  S : SrcAt w p g s 0 s.size 128
  L : LedAt w g y
  R : RasAt w r g b (h.W : Int) (h.H : Int) true
  B : BufAt w b g d (pixL Lq (4 * (h.W * h.H)))
  F : FB w f 0 0 0
  Q : Blk w q 145 (pcxCsF s h fv)
  M : h.Map → PalHas w l lb g ld 256 (pcxMapL s) ∧ w0.heap.size ≤ l ∧ w0.heap.size ≤ lb ∧ w0.heap.size ≤ ld
  T : Turn [p, g, d] w0 w
  nf : w0.heap.size ≤ f
  nq : w0.heap.size ≤ q
  ob : b < w0.heap.size
  od : d < w0.heap.size
  op : p < w0.heap.size
section
variable {w0 w w' : World} {p g r b d f q l lb ld : Nat} {s : ByteArray} {h : PcxHd} {fv : Value} {Lq : List Qc} {y y' : Led}
theorem PM.below (I : PM w0 w p g r b d f q l lb ld s h fv Lq y) (k : Below w.heap.size w w') : PM w0 w' p g r b d f q l lb ld s h fv Lq y :=
  ⟨Blk.below I.S k (Blk.lt I.S), Blk.below I.L k (Blk.lt I.L), Blk.below I.R k (Blk.lt I.R), ⟨Blk.below I.B.blk k (Blk.lt I.B.blk), Blk.below I.B.row k (Blk.lt I.B.row)⟩, I.F.below k, Blk.below I.Q k (Blk.lt I.Q), fun hm => ⟨(I.M hm).1.below k, (I.M hm).2⟩, I.T.trans (Turn.of_below k), I.nf, I.nq, I.ob, I.od, I.op⟩
theorem PM.alloc (I : PM w0 w p g r b d f q l lb ld s h fv Lq y) (o : Obj) : PM w0 (w.alloc o) p g r b d f q l lb ld s h fv Lq y := I.below ((Below.refl _ _).alloc (Nat.le_refl _) _)
theorem PM.drew (I : PM w0 w p g r b d f q l lb ld s h fv Lq y) : PM w0 w.drew p g r b d f q l lb ld s h fv Lq y :=
  ⟨Blk.drew I.S, Blk.drew I.L, Blk.drew I.R, ⟨I.B.blk.drew, I.B.row.drew⟩, Blk.drew I.F, Blk.drew I.Q, fun hm => ⟨Blk_drewP2 (I.M hm).1, (I.M hm).2⟩, I.T.drew, I.nf, I.nq, I.ob, I.od, I.op⟩
/-- blocks of other types, and other buffers, turn -/
theorem PM.turn {S : List Nat} (I : PM w0 w p g r b d f q l lb ld s h fv Lq y) (k : Turn S w w') (hp : p ∉ S) (hr : r ∉ S) (hb : b ∉ S) (hd : d ∉ S) (hf : f ∉ S) (hq : q ∉ S) (hm : h.Map → l ∉ S ∧ lb ∉ S ∧ ld ∉ S) (hn : ∀ i ∈ S, i ∈ [p, g, d] ∨ w0.heap.size ≤ i) (L' : LedAt w' g y') : PM w0 w' p g r b d f q l lb ld s h fv Lq y' :=
  ⟨Blk.turn I.S k hp, L', Blk.turn I.R k hr, I.B.turn k hb hd, I.F.turn k hf, Blk.turn I.Q k hq, fun hM => ⟨(I.M hM).1.turn k (hm hM).1 (hm hM).2.1 (hm hM).2.2, (I.M hM).2⟩, I.T.next k hn, I.nf, I.nq, I.ob, I.od, I.op⟩
theorem PM.led (I : PM w0 w p g r b d f q l lb ld s h fv Lq y) (k : Turn [g] w w') (L' : LedAt w' g y') : PM w0 w' p g r b d f q l lb ld s h fv Lq y' :=
  I.turn k (by simpa using Blk.ne_ I.S I.L (by decide)) (by simpa using Blk.ne_ I.R I.L (by decide)) (by simpa using Blk.ne_ I.B.blk I.L (by decide)) (by simpa using Blk.ne_ I.B.row I.L (by decide)) (by simpa using Blk.ne_ I.F I.L (by decide)) (by simpa using Blk.ne_ I.Q I.L (by decide)) (fun hM => by have h2 := (I.M hM).1.led I.L; simpa using h2) (by intro i hi; rw [List.mem_singleton] at hi; subst hi; exact .inl (by simp)) L'
/-- a new block of another type turns -/
theorem PM.own {x : Nat} {tt : TypeId} {cs : Array Value} (I : PM w0 w p g r b d f q l lb ld s h fv Lq y) (k : Turn [x] w w') (hx : Blk w x tt cs) (hn : w0.heap.size ≤ x) (h1 : tt ≠ 164) (h2 : tt ≠ 121) (h3 : tt ≠ 182) (h4 : tt ≠ 251) (h5 : tt ≠ 5) (h6 : tt ≠ 145) (h7 : tt ≠ 245) (hf : f ≠ x) : PM w0 w' p g r b d f q l lb ld s h fv Lq y := by
  have n : ∀ {i : Nat} {ti : TypeId} {ci : Array Value}, Blk w i ti ci → tt ≠ ti → i ∉ [x] := fun hb hne => by simpa using Blk.ne_ hb hx (Ne.symm hne)
  refine I.turn k (n I.S h1) (n I.R h3) (n I.B.blk h4) (n I.B.row h5) (by simpa using hf) (n I.Q h6) (fun hM => ?_) (by intro i hi; rw [List.mem_singleton] at hi; subst hi; exact .inr hn) (Blk.turn I.L k (n I.L h2))
  obtain ⟨k1, _, rest, k3, _⟩ := (I.M hM).1
  exact ⟨n k1 h7, n k3.blk h4, n k3.row h5⟩
end
/-- rows are read: the window, the row's buffer and its box, the boxes of the choice -/
structure PN (w0 w : World) (p g r b d f q l lb ld wq rb bb dd bx bl : Nat) (s : ByteArray) (h : PcxHd) (te a : Nat) (R : List UInt8) (Lq : List Qc) (y : Led) : Prop where
  K : PM w0 w p g r b d f q l lb ld s h (pcxFn h bx bl) Lq y
  W : SrcAt w wq g s 128 te a
  rb_ : Blk w rb 178 #[.pointer (some ⟨bb, 0, none⟩)]
  BB : BufAt w bb g dd R
  x : Blk w bx 270 #[.pointer (some ⟨q, 0, none⟩)]
  lx : h.Map → Blk w bl 62 #[.pointer (some ⟨l, 0, none⟩)]
  n : R.length = h.row
  nw : w0.heap.size ≤ wq
  nr : w0.heap.size ≤ rb
  nb : w0.heap.size ≤ bb
  nd : w0.heap.size ≤ dd
  nm : h.Map → lb ≠ bb ∧ ld ≠ dd
  ok : SrcOk s 128 te a
section
variable {w0 w w' : World} {p g r b d f q l lb ld wq rb bb dd bx bl : Nat} {s : ByteArray} {h : PcxHd} {te a a' : Nat} {R R' : List UInt8} {Lq : List Qc} {y y' : Led}
theorem PN.below (I : PN w0 w p g r b d f q l lb ld wq rb bb dd bx bl s h te a R Lq y) (k : Below w.heap.size w w') : PN w0 w' p g r b d f q l lb ld wq rb bb dd bx bl s h te a R Lq y :=
  ⟨I.K.below k, Blk.below I.W k (Blk.lt I.W), Blk.below I.rb_ k (Blk.lt I.rb_), ⟨Blk.below I.BB.blk k (Blk.lt I.BB.blk), Blk.below I.BB.row k (Blk.lt I.BB.row)⟩, Blk.below I.x k (Blk.lt I.x), fun hm => Blk.below (I.lx hm) k (Blk.lt (I.lx hm)), I.n, I.nw, I.nr, I.nb, I.nd, I.nm, I.ok⟩
theorem PN.alloc (I : PN w0 w p g r b d f q l lb ld wq rb bb dd bx bl s h te a R Lq y) (o : Obj) : PN w0 (w.alloc o) p g r b d f q l lb ld wq rb bb dd bx bl s h te a R Lq y := I.below ((Below.refl _ _).alloc (Nat.le_refl _) _)
theorem PN.drew (I : PN w0 w p g r b d f q l lb ld wq rb bb dd bx bl s h te a R Lq y) : PN w0 w.drew p g r b d f q l lb ld wq rb bb dd bx bl s h te a R Lq y :=
  ⟨I.K.drew, Blk.drew I.W, Blk.drew I.rb_, ⟨I.BB.blk.drew, I.BB.row.drew⟩, Blk.drew I.x, fun hm => Blk.drew (I.lx hm), I.n, I.nw, I.nr, I.nb, I.nd, I.nm, I.ok⟩
/-- what turns when a row is read -/
theorem PN.read (I : PN w0 w p g r b d f q l lb ld wq rb bb dd bx bl s h te a R Lq y) (k : Turn [wq, g, dd] w w') (L' : LedAt w' g y') : PM w0 w' p g r b d f q l lb ld s h (pcxFn h bx bl) Lq y' ∧ Blk w' rb 178 #[.pointer (some ⟨bb, 0, none⟩)] ∧ Blk w' bx 270 #[.pointer (some ⟨q, 0, none⟩)] ∧ (h.Map → Blk w' bl 62 #[.pointer (some ⟨l, 0, none⟩)]) := by
  have n : ∀ {i : Nat} {ti : TypeId} {ci : Array Value}, Blk w i ti ci → ti ≠ 164 → ti ≠ 121 → ti ≠ 5 → i ∉ [wq, g, dd] := fun hb h1 h2 h3 => by simp only [List.mem_cons, List.not_mem_nil, or_false, not_or]; exact ⟨Blk.ne_ hb I.W h1, Blk.ne_ hb I.K.L h2, Blk.ne_ hb I.BB.row h3⟩
  have e1 := I.nw
  have e2 := I.nd
  have e3 := I.K.op
  have e4 := I.K.od
  refine ⟨I.K.turn k (by simp only [List.mem_cons, List.not_mem_nil, or_false, not_or]; exact ⟨by omega, Blk.ne_ I.K.S I.K.L (by decide), by omega⟩) (n I.K.R (by decide) (by decide) (by decide)) (n I.K.B.blk (by decide) (by decide) (by decide)) (by simp only [List.mem_cons, List.not_mem_nil, or_false, not_or]; exact ⟨by omega, Blk.ne_ I.K.B.row I.K.L (by decide), by omega⟩) (n I.K.F (by decide) (by decide) (by decide)) (n I.K.Q (by decide) (by decide) (by decide)) (fun hM => ?_) (by intro i hi; simp only [List.mem_cons, List.not_mem_nil, or_false] at hi ⊢; omega) L', Blk.turn I.rb_ k (n I.rb_ (by decide) (by decide) (by decide)), Blk.turn I.x k (n I.x (by decide) (by decide) (by decide)), fun hM => Blk.turn (I.lx hM) k (n (I.lx hM) (by decide) (by decide) (by decide))⟩
  obtain ⟨k1, _, rest, k3, _⟩ := (I.K.M hM).1
  refine ⟨n k1 (by decide) (by decide) (by decide), n k3.blk (by decide) (by decide) (by decide), ?_⟩
  simp only [List.mem_cons, List.not_mem_nil, or_false, not_or]
  exact ⟨Blk.ne_ k3.row I.W (by decide), Blk.ne_ k3.row I.K.L (by decide), (I.nm hM).2⟩
/-- a pixel is set -/
theorem PN.set {Lq' : List Qc} (I : PN w0 w p g r b d f q l lb ld wq rb bb dd bx bl s h te a R Lq y) (k : Turn [g, d] w w') (L' : LedAt w' g y') (B' : BufAt w' b g d (pixL Lq' (4 * (h.W * h.H)))) : PN w0 w' p g r b d f q l lb ld wq rb bb dd bx bl s h te a R Lq' y' := by
  have n : ∀ {i : Nat} {ti : TypeId} {ci : Array Value}, Blk w i ti ci → ti ≠ 121 → ti ≠ 5 → i ∉ [g, d] := fun hb h2 h3 => by simp only [List.mem_cons, List.not_mem_nil, or_false, not_or]; exact ⟨Blk.ne_ hb I.K.L h2, Blk.ne_ hb I.K.B.row h3⟩
  have e2 := I.nd
  have e4 := I.K.od
  have nd8 : ∀ {i : Nat}, w0.heap.size ≤ i → ∀ {ci : Array Value}, Blk w i 5 ci → i ∉ [g, d] := fun hi _ hb => by simp only [List.mem_cons, List.not_mem_nil, or_false, not_or]; exact ⟨Blk.ne_ hb I.K.L (by decide), by omega⟩
  obtain ⟨⟨S, L, RR, B, F, Q, M, T, nf, nq, ob, od, op⟩, W, rb_, BB, x, lx, nn, nw, nr, nb, nd, nm, ok⟩ := I
  refine ⟨⟨Blk.turn S k (n S (by decide) (by decide)), L', Blk.turn RR k (n RR (by decide) (by decide)), B', F.turn k (n F (by decide) (by decide)), Blk.turn Q k (n Q (by decide) (by decide)), fun hM => ?_, T.trans (k.mono (by simp)), nf, nq, ob, od, op⟩, Blk.turn W k (n W (by decide) (by decide)), Blk.turn rb_ k (n rb_ (by decide) (by decide)), ⟨Blk.turn BB.blk k (n BB.blk (by decide) (by decide)), Blk.turn BB.row k (nd8 nd BB.row)⟩, Blk.turn x k (n x (by decide) (by decide)), fun hM => Blk.turn (lx hM) k (n (lx hM) (by decide) (by decide)), nn, nw, nr, nb, nd, nm, ok⟩
  obtain ⟨P, n1, n2, n3⟩ := M hM
  refine ⟨?_, n1, n2, n3⟩
  obtain ⟨k1, k2, rest, k3, k4⟩ := P
  exact ⟨Blk.turn k1 k (n k1 (by decide) (by decide)), k2, rest, ⟨Blk.turn k3.blk k (n k3.blk (by decide) (by decide)), Blk.turn k3.row k (nd8 n3 k3.row)⟩, k4⟩
theorem PN.led (I : PN w0 w p g r b d f q l lb ld wq rb bb dd bx bl s h te a R Lq y) (k : Turn [g] w w') (L' : LedAt w' g y') : PN w0 w' p g r b d f q l lb ld wq rb bb dd bx bl s h te a R Lq y' :=
  I.set (k.mono (by simp)) L' (I.K.B.turn k (by simpa using Blk.ne_ I.K.B.blk I.K.L (by decide)) (by simpa using Blk.ne_ I.K.B.row I.K.L (by decide)))
/-- a new block of another type turns -/
theorem PN.own {i : Nat} {tt : TypeId} {cs : Array Value} (I : PN w0 w p g r b d f q l lb ld wq rb bb dd bx bl s h te a R Lq y) (k : Turn [i] w w') (hx : Blk w i tt cs) (hn : w0.heap.size ≤ i) (h1 : tt ≠ 164) (h2 : tt ≠ 121) (h3 : tt ≠ 182) (h4 : tt ≠ 251) (h5 : tt ≠ 5) (h6 : tt ≠ 145) (h7 : tt ≠ 245) (h8 : tt ≠ 178) (h9 : tt ≠ 270) (h10 : tt ≠ 62) (hf : f ≠ i) : PN w0 w' p g r b d f q l lb ld wq rb bb dd bx bl s h te a R Lq y := by
  have n : ∀ {j : Nat} {ti : TypeId} {ci : Array Value}, Blk w j ti ci → tt ≠ ti → j ∉ [i] := fun hb hne => by simpa using Blk.ne_ hb hx (Ne.symm hne)
  exact ⟨I.K.own k hx hn h1 h2 h3 h4 h5 h6 h7 hf, Blk.turn I.W k (n I.W h1), Blk.turn I.rb_ k (n I.rb_ h8), ⟨Blk.turn I.BB.blk k (n I.BB.blk h4), Blk.turn I.BB.row k (n I.BB.row h5)⟩, Blk.turn I.x k (n I.x h9), fun hM => Blk.turn (I.lx hM) k (n (I.lx hM) h10), I.n, I.nw, I.nr, I.nb, I.nd, I.nm, I.ok⟩
end
/-- what the reading of pixels leaves -/
def PPxPost (w w' : World) (p g r b d : Nat) (s : ByteArray) (h : PcxHd) (y : Led) (e : Ending) : Prop :=
  ∃ y' L', LedAt w' g y' ∧ y'.Ok ∧ y'.bytes = y.bytes ∧ Turn [p, g, d] w w' ∧ BufAt w' b g d (pixL L' (4 * (h.W * h.H))) ∧ 4 * L'.length ≤ 4 * (h.W * h.H) ∧
    ((∃ kk aa : Nat, kk ≠ 0 ∧ e = .returned (pFlt kk aa) ∧ (pcxPix s h (4 * (h.W * h.H))).run y = ((y'.give ((4 * (h.W * h.H) : Nat) : Int)).1, .bad kk aa)) ∨
     (e = .returned pFlt0 ∧ L'.length = h.W * h.H ∧ (pcxPix s h (4 * (h.W * h.H))).run y = (y', .img h.W h.H (flat L'))))
/-- ready to be left: the fault is told; what is kept is still kept -/
structure PL (w0 w : World) (p g b d f l lb ld bb dd : Nat) (s : ByteArray) (h : PcxHd) (k1 k2 k3 : Int) (Lq : List Qc) (m : Nat) (y0 y : Led) : Prop where
  L : LedAt w g y
  B : BufAt w b g d (pixL Lq (4 * (h.W * h.H)))
  F : FB w f k1 k2 k3
  M : h.Map → PalHas w l lb g ld 256 (pcxMapL s) ∧ w0.heap.size ≤ l ∧ w0.heap.size ≤ lb ∧ w0.heap.size ≤ ld
  X : ∃ R, BufAt w bb g dd R ∧ R.length = h.row
  T : Turn [p, g, d] w0 w
  nb : w0.heap.size ≤ bb
  nd : w0.heap.size ≤ dd
  nm : h.Map → lb ≠ bb ∧ ld ≠ dd
  ob : b < w0.heap.size
  od : d < w0.heap.size
  nf : w0.heap.size ≤ f
  yok : y.Ok
  yb : y.bytes = y0.bytes + m
  y0b : ((4 * (h.W * h.H) : Nat) : Int) ≤ y0.bytes
  len : 4 * Lq.length ≤ 4 * (h.W * h.H)
/-- as bodyPostD, of a walk that does not panic -/
def bodyPostN (P : Program) (fn : Func) (R : Ending → World → Prop) : Exit → Act → World → Prop
  | .normal, a, w | .ret, a, w => Leaves P fn a.tmps R a.defers .returning w
  | _, _, _ => False
theorem bodyPostN_D {P : Program} {fn : Func} {R : Ending → World → Prop} : ∀ e a w, bodyPostN P fn R e a w → bodyPostD P fn R e a w := by
  intro e a w h
  cases e <;> first | exact h | exact h.elim
theorem pleaves_none {P : Program} {fn : Func} {R : Ending → World → Prop} {a : Act} {w : World} {v : Value} (hd : a.defers = []) (hr : (results fn a.tmps).run P w = .ok v w) (hR : R (.returned v) w) : bodyPostN P fn R .ret a w := by
  show Leaves P fn a.tmps R a.defers .returning w
  rw [hd]
  exact ⟨v, hr, hR⟩
theorem pleaves_one {P : Program} {fn : Func} {R : Ending → World → Prop} {a : Act} {w : World} {fv : Fn} {cap dargs args : Array Value} {f : FuncId} (hd : a.defers = [{ target := .fn fv cap, args := dargs }]) (hi : (invoke (.fn fv cap) dargs).run P w = .ok (.enter f args) w)
    (h : CallsD P f args .returning w fun e u' w' => u' = .returning ∧ ∃ v0, e = .returned v0 ∧ ∃ v, (results fn a.tmps).run P w' = .ok v w' ∧ R (.returned v) w') : bodyPostN P fn R .ret a w := by
  show Leaves P fn a.tmps R a.defers .returning w
  rw [hd]
  refine leaves_cons (by simp) hi (h.mono ?_)
  rintro e u' w' ⟨rfl, v0, rfl, v, h1, h2⟩
  exact ⟨v, h1, h2⟩
theorem pleaves_two {P : Program} {fn : Func} {R : Ending → World → Prop} {a : Act} {w : World} {fv1 fv2 : Fn} {cap1 dargs1 args1 cap2 dargs2 args2 : Array Value} {f1 f2 : FuncId} (hd : a.defers = [{ target := .fn fv1 cap1, args := dargs1 }, { target := .fn fv2 cap2, args := dargs2 }]) (hi1 : (invoke (.fn fv1 cap1) dargs1).run P w = .ok (.enter f1 args1) w)
    (h : CallsD P f1 args1 .returning w fun e u' w1 => u' = .returning ∧ ∃ v0, e = .returned v0 ∧ (invoke (.fn fv2 cap2) dargs2).run P w1 = .ok (.enter f2 args2) w1 ∧
      CallsD P f2 args2 .returning w1 fun e u' w' => u' = .returning ∧ ∃ v0, e = .returned v0 ∧ ∃ v, (results fn a.tmps).run P w' = .ok v w' ∧ R (.returned v) w') : bodyPostN P fn R .ret a w := by
  show Leaves P fn a.tmps R a.defers .returning w
  rw [hd]
  refine leaves_cons (by simp) hi1 (h.mono ?_)
  rintro e u' w1 ⟨rfl, v0, rfl, hi2, h2⟩
  refine leaves_cons (by simp [settle]) hi2 (CallsD.mono (by exact h2) ?_)
  rintro e u' w' ⟨rfl, v1, rfl, v, h3, h4⟩
  exact ⟨v, h3, h4⟩
section
variable {w w' : World} {p b g d : Nat} {l : List UInt8}
theorem ppalFreeD {n m : Int} {x y : Led} {u : FrameMode} (h : PalAt w p b n m) (hm : BufAt w b g d l) (k : LedAt w g x) (ok : x.Ok) (e : x.give l.length = (y, true)) :
    CallsD Tryz.prog 99 #[.pointer (some ⟨p, 0, none⟩)] u w fun e u' w' => u' = u ∧ (e = .returned (.bool true) ∧ LedAt w' g y ∧ Turn [p, b, g] w w') := by
  have hpb : p ≠ b := Blk.ne_ h hm.blk (by decide)
  have hpd : p ≠ d := Blk.ne_ h hm.row (by decide)
  have hpg : p ≠ g := Blk.ne_ h k (by decide)
  have P1 := PalAt.zero h
  have M1 : BufAt ((w.setCell ⟨p, 1, none⟩ (.int .i64 0)).setCell ⟨p, 2, none⟩ (.int .i64 0)) b g d l := ⟨Blk.far (Blk.far hm.blk (p := ⟨p, 1, none⟩) hpb.symm _) (p := ⟨p, 2, none⟩) hpb.symm _, Blk.far (Blk.far hm.row (p := ⟨p, 1, none⟩) hpd.symm _) (p := ⟨p, 2, none⟩) hpd.symm _⟩
  have K1 : LedAt ((w.setCell ⟨p, 1, none⟩ (.int .i64 0)).setCell ⟨p, 2, none⟩ (.int .i64 0)) g x := Blk.far (Blk.far k (p := ⟨p, 1, none⟩) hpg.symm _) (p := ⟨p, 2, none⟩) hpg.symm _
  have T1 : Turn [p, b, g] w ((w.setCell ⟨p, 1, none⟩ (.int .i64 0)).setCell ⟨p, 2, none⟩ (.int .i64 0)) := ((Turn.refl _ _).set_ 1 _ (.inl (by simp))).set_ 2 _ (.inl (by simp))
  have HF := Lib.hid (bufFree_first M1 K1 ok e)
  have n1 := h.n_
  have n2 := h.m_
  have n0 := h.b_
  have z1 := Blk.frozen h 1
  have z2 := Blk.frozen h 2
  have HT := Lib.hid T1
  clear h hm k ok e M1 K1 P1 T1
  go_enter_d Tryz.func99, Tryz.ntmps99
  go_wp2_with (go_at_call 142; refine HF.out.mono ?_; rintro e w2 ⟨rfl, o2, l2, t2⟩)
  go_ret
  exact ⟨rfl, l2, HT.out.trans (t2.mono (by simp))⟩
theorem bufFreeD {x y : Led} {u : FrameMode} (h : BufAt w b g d l) (k : LedAt w g x) (ok : x.Ok) (e : x.give l.length = (y, true)) :
    CallsD Tryz.prog 142 #[.pointer (some ⟨b, 0, none⟩)] u w fun e u' w' => u' = u ∧ (e = .returned (.bool true) ∧ LedAt w' g y ∧ Turn [b, g] w w') := by
  have hne := h.bg k
  have HB := Lib.hid h
  have HL := Lib.hid k
  have HK := Lib.hid ok
  have HE := Lib.hid e
  clear h k ok e
  go_enter_d Tryz.func142, Tryz.ntmps142
  go_wp2_with (first
    | (go_at_call 195; refine (give_at hl HK.out HE.out).mono ?_; rintro e w2 ⟨rfl, q1, q2⟩)
    | (go_at_call 181; refine (bufLeave_first HB.out).mono ?_; rintro e w1 ⟨rfl, p1, p2⟩; have c0 : w1.cell? ⟨b, 0, none⟩ = some (.pointer (some ⟨g, 0, none⟩)) := Blk.cell p1 0; have hl := LedAt.turn HL.out p2 (not_mem_one hne.symm)))
  go_ret
  exact ⟨rfl, q1, p2.mono (by simp) |>.trans (Turn.of_grown q2 (by simp))⟩
end
end Go.Proofs.YtccldalagbfmhaaGreat
