/- The document's Read of pixels as text. The document's Read of samples as text. The document's Read of samples as text. -/
import Derived.Test.YtgmgcfjllijhgaaGreatJRasRef
import Derived.Test.YtgmgcfjllijhgaaGreatJPnmHd
import Derived.Test.YtgmgcfjllijhgaaGreatJNum
import Derived.Test.YtgmgcfjllijhgaaGreatJFfRef3
import Derived.Test.YtgmgcfjllijhgaaGreatJFfM
import Derived.Test.YtgmgcfjllijhgaaGreatJPnmB
namespace Go.Proofs.YtgmgcfjllijhgaaGreat
open Go.RowKit
set_option linter.unusedVariables false
set_option linter.unusedSimpArgs false

theorem refGrayQ {v : Nat} (hv : v ≤ 255) (w : World) : Calls Tryz.prog 33 #[.int .i64 (v : Int)] w fun e w' => e = .returned (grayQ (UInt8.ofNat v)).v ∧ Below w.heap.size w w' := by
  have hvI : (v : Int) ≤ 255 := by omega
  have hu : ((UInt8.ofNat v).toNat : Int) = (v : Int) := by rw [UInt8.toNat_ofNat', Nat.mod_eq_of_lt (by omega)]
  have hw : (v : Int) % 256 = (v : Int) := by omega
  go_enter Tryz.func33, Tryz.ntmps33
  go_wp2_with fail
  exact bodyPost_ret (v := (grayQ (UInt8.ofNat v)).v) (by simp [results, Tryz.results33, go_sem, grayQ, Qc.v, hu, hw]) rfl ⟨rfl, (Below.refl _ _).alloc (Nat.le_refl _) _⟩
/-- what holds at each pixel -/
structure DcI (w0 w : World) (po K W H M n : Nat) (v : Value) (L : List Qc) : Prop where
  Hd : Blk w w0.heap.size 24 #[.int .i64 (K : Int), .int .i64 (W : Int), .int .i64 (H : Int), .int .i64 (M : Int), .int .i64 (n : Int), .int .i64 0, .int .i64 0]
  A : RI w (w0.heap.size + 1) 0 0 (.slice none 0 0) 0 0
  X : RI w po (W : Int) (H : Int) v 0 0
  O : OwnsQ w w0.heap.size v L
  B : Below w0.heap.size w0 w
  np : w0.heap.size + 1 < po
/-- and what was read -/
structure DcJ (w0 w : World) (po K W H M n : Nat) (v : Value) (L : List Qc) (pd : Nat) (G : Array Value) : Prop where
  I : DcI w0 w po K W H M n v L
  D : Blk w pd 54 G
section
variable {w0 w w' : World} {po K W H M n : Nat} {v : Value} {L : List Qc} {pd : Nat} {G : Array Value}
theorem DcI.below (h : DcI w0 w po K W H M n v L) (b : Below w.heap.size w w') : DcI w0 w' po K W H M n v L :=
  ⟨Blk.below h.Hd b (Blk.lt h.Hd), Blk.below h.A b (Blk.lt h.A), Blk.below h.X b (Blk.lt h.X), h.O.below b, below_next h.B b, h.np⟩
theorem DcI.alloc (h : DcI w0 w po K W H M n v L) (x : Obj) : DcI w0 (w.alloc x) po K W H M n v L := h.below ((Below.refl _ _).alloc (Nat.le_refl _) _)
theorem DcI.drew (h : DcI w0 w po K W H M n v L) : DcI w0 w.drew po K W H M n v L :=
  ⟨Blk.drew h.Hd, Blk.drew h.A, Blk.drew h.X, h.O, h.B.drew, h.np⟩
theorem DcJ.below (h : DcJ w0 w po K W H M n v L pd G) (b : Below w.heap.size w w') : DcJ w0 w' po K W H M n v L pd G := ⟨h.I.below b, Blk.below h.D b (Blk.lt h.D)⟩
theorem DcJ.alloc (h : DcJ w0 w po K W H M n v L pd G) (x : Obj) : DcJ w0 (w.alloc x) po K W H M n v L pd G := h.below ((Below.refl _ _).alloc (Nat.le_refl _) _)
theorem DcJ.drew (h : DcJ w0 w po K W H M n v L pd G) : DcJ w0 w.drew po K W H M n v L pd G := ⟨h.I.drew, Blk.drew h.D⟩
theorem dwp_gen {c : Code} {Q : Exit → Act → World → Prop} {a : Act} {w : World} {S : World → Prop} (hS : S w) (h : ∀ wx, S wx → c.wp Tryz.prog Q a wx) : c.wp Tryz.prog Q a w := h w hS
theorem DcI.grow {u : Value} {c : Qc} (h : DcI w0 w po K W H M n v L) (o : OwnsQ w' w0.heap.size u (L ++ [c])) (b : Below w0.heap.size w w') (g : w.grownBy w' v.ownBlock) : DcI w0 (w'.setCell ⟨po, 2, none⟩ u) po K W H M n u (L ++ [c]) := by
  have X1 : RI w' po (W : Int) (H : Int) v 0 0 := Blk.grownQ h.X h.O (by decide) g
  have A1 : RI w' (w0.heap.size + 1) 0 0 (.slice none 0 0) 0 0 := Blk.grownQ h.A h.O (by decide) g
  have H1 := Blk.grownQ h.Hd h.O (by decide) g
  have hp := h.np
  exact ⟨Blk.far H1 (p := ⟨po, 2, none⟩) (by show w0.heap.size ≠ po; omega) u, Blk.far A1 (p := ⟨po, 2, none⟩) (Nat.ne_of_lt h.np) u, (Blk.set_ X1 2 u).eq_ (by simp [ri5]), OwnsQ.farRI o X1, below_set (h.B.trans b) (by show w0.heap.size ≤ po; omega), h.np⟩
theorem DcJ.grow {u : Value} {c : Qc} (h : DcJ w0 w po K W H M n v L pd G) (o : OwnsQ w' w0.heap.size u (L ++ [c])) (b : Below w0.heap.size w w') (g : w.grownBy w' v.ownBlock) : DcJ w0 (w'.setCell ⟨po, 2, none⟩ u) po K W H M n u (L ++ [c]) pd G := by
  have X1 : RI w' po (W : Int) (H : Int) v 0 0 := Blk.grownQ h.I.X h.I.O (by decide) g
  have D1 := Blk.grownQ h.D h.I.O (by decide) g
  exact ⟨h.I.grow o b g, Blk.far D1 (p := ⟨po, 2, none⟩) (Blk.ne_ D1 X1 (by decide)) u⟩
theorem DcI.outs (h : DcI w0 w po K W H M n v L) {W' H' k i : Int} : Below w0.heap.size w0 (st5 w (w0.heap.size + 1) (.int .i64 W') (.int .i64 H') v (.int .i64 k) (.int .i64 i)) ∧ OwnsQ (st5 w (w0.heap.size + 1) (.int .i64 W') (.int .i64 H') v (.int .i64 k) (.int .i64 i)) w0.heap.size v L :=
  ⟨Below.st5 h.B (Nat.le_succ _), OwnsQ.st5RI h.O h.A⟩
theorem DcI.head (h : DcI w0 w po K W H M n v L) : w.cell? ⟨w0.heap.size, 0, none⟩ = some (.int .i64 (K : Int)) ∧ w.cell? ⟨w0.heap.size, 1, none⟩ = some (.int .i64 (W : Int)) ∧ w.cell? ⟨w0.heap.size, 2, none⟩ = some (.int .i64 (H : Int)) ∧ w.cell? ⟨w0.heap.size, 3, none⟩ = some (.int .i64 (M : Int)) ∧ w.cell? ⟨w0.heap.size, 4, none⟩ = some (.int .i64 (n : Int)) :=
  ⟨Blk.cell h.Hd 0, Blk.cell h.Hd 1, Blk.cell h.Hd 2, Blk.cell h.Hd 3, Blk.cell h.Hd 4⟩
/-- what was read stays -/
def DcS (pd : Nat) (V : Nat) (w : World) : Prop := w.cell? ⟨pd, 0, none⟩ = some (.int .i64 (V : Int)) ∧ True
theorem DcJ.sds {V : Nat} {c1 c2 c3 c4 : Value} (h : DcJ w0 w po K W H M n v L pd #[.int .i64 (V : Int), c1, c2, c3, c4]) : DcS pd V w := ⟨Blk.cell h.D 0, trivial⟩
end
end Go.Proofs.YtgmgcfjllijhgaaGreat
namespace Go.Proofs.YtgmgcfjllijhgaaGreat
open Go.RowKit
set_option linter.unusedVariables false
set_option linter.unusedSimpArgs false

theorem infoInt3 : (Tryz.prog.info? 3).map (fun i => (i.zero, i.size, i.bytes)) = some (some (.int .i64 0), 1, 8) := by kernel_rfl
theorem Owns1.empty3 {w : World} {base : Nat} {e : TypeId} (h : base ≤ w.heap.size) : Owns1 (w.alloc (.cells #[] e)) base e (.slice (some ⟨w.heap.size, 0, none⟩) 0 0) [] :=
  World.ownsRow_lit w #[] 0 h (by unfold maxLen; omega) (by simp)
theorem Blk.grownO3 {w w' : World} {g base : Nat} {t e : TypeId} {cs : Array Value} {v : Value} {l : List Value} (h : Blk w g t cs) (o : Owns1 w base e v l) (hne : t ≠ e) (hg : w.grownBy w' v.ownBlock) : Blk w' g t cs := by
  refine h.grown hg fun he => ?_
  rcases o.2 with ⟨rfl, _⟩ | ⟨r, cap, cur, rfl, _, hr, _⟩
  · cases he
  · simp only [Value.ownBlock, Option.some.injEq] at he
    subst he
    exact Blk.ne_ h hr hne rfl
theorem own_apart {w : World} {base base' q q' n n' : Nat} {e e' : TypeId} {u u' : Value} {l l' : List Value} (h : w.ownsRow base e q u n l) (k : w.ownsRow base' e' q' u' n' l') (he : e ≠ e') : u.ownBlock = none ∨ u.ownBlock ≠ u'.ownBlock := by
  rcases h.2 with ⟨rfl, _⟩ | ⟨g, cap, cur, rfl, _, hg, _⟩
  · exact .inl rfl
  · refine .inr fun hb => ?_
    rcases k.2 with ⟨rfl, _⟩ | ⟨g', cap', cur', rfl, _, hg', _⟩
    · cases hb
    · simp only [Value.ownBlock, Option.some.injEq] at hb
      subst hb
      rw [hg] at hg'
      injection hg' with h1
      injection h1 with _ h2 _
      exact he h2
theorem Owns1.turnD {S : List Nat} {w w' : World} {base : Nat} {e : TypeId} {v : Value} {l : List Value} (o : Owns1 w base e v l) (k : Turn S w w') (hS : ∀ i ∈ S, ∃ t cs, Blk w i t cs ∧ t ≠ e) : Owns1 w' base e v l := by
  refine ⟨o.1, ?_⟩
  rcases o.2 with h | ⟨r, cap, cur, hv, hb, hr, h4, h5, h6, h7⟩
  · exact .inl h
  · refine .inr ⟨r, cap, cur, hv, hb, ?_, h4, h5, h6, h7⟩
    exact Blk.turn hr k (fun hm => by obtain ⟨t, cs, hbk, hn⟩ := hS r hm; exact Blk.ne_ hbk hr hn rfl)
theorem Owns1.farB {w : World} {base b i : Nat} {t T : TypeId} {cs : Array Value} {v u : Value} {l : List Value} (o : Owns1 w base T v l) (h : Blk w b t cs) (ht : t ≠ T) : Owns1 (w.setCell ⟨b, i, none⟩ u) base T v l :=
  o.turnD (S := [b]) ((Turn.refl _ _).set_ i u (by simp)) (fun j hj => by rw [List.mem_singleton] at hj; subst hj; exact ⟨_, _, h, ht⟩)
def dV (l : List UInt8) : List Value := l.map fun b => .int .i64 (b.toNat : Int)
theorem dV_len (l : List UInt8) : (dV l).length = l.length := by simp [dV]
theorem dV_snoc (l : List UInt8) (b : UInt8) : dV (l ++ [b]) = dV l ++ [.int .i64 (b.toNat : Int)] := by simp [dV]
/-- what holds at each sample -/
structure DcL (w0 w : World) (po K W H M n : Nat) (v : Value) (L : List Qc) (u : Value) (l : List UInt8) : Prop where
  I : DcI w0 w po K W H M n v L
  P : Owns1 w w0.heap.size 3 u (dV l)
section
variable {w0 w w' : World} {po K W H M n : Nat} {v u : Value} {L : List Qc} {l : List UInt8}
theorem DcL.below (h : DcL w0 w po K W H M n v L u l) (b : Below w.heap.size w w') : DcL w0 w' po K W H M n v L u l := ⟨h.I.below b, h.P.stays b (Nat.le_refl _)⟩
theorem DcL.alloc (h : DcL w0 w po K W H M n v L u l) (x : Obj) : DcL w0 (w.alloc x) po K W H M n v L u l := ⟨h.I.alloc x, h.P.alloc x⟩
theorem DcL.drew (h : DcL w0 w po K W H M n v L u l) : DcL w0 w.drew po K W H M n v L u l := ⟨h.I.drew, h.P.drew⟩
theorem DcL.row (h : DcL w0 w po K W H M n v L u l) (g : w.grownBy w' v.ownBlock) : Owns1 w' w0.heap.size 3 u (dV l) := h.P.kept g (own_apart h.P h.I.O (by decide))
theorem DcL.grow {u' : Value} {c : Qc} (h : DcL w0 w po K W H M n v L u l) (o : OwnsQ w' w0.heap.size u' (L ++ [c])) (b : Below w0.heap.size w w') (g : w.grownBy w' v.ownBlock) : DcL w0 (w'.setCell ⟨po, 2, none⟩ u') po K W H M n u' (L ++ [c]) u l := by
  have X1 : RI w' po (W : Int) (H : Int) v 0 0 := Blk.grownQ h.I.X h.I.O (by decide) g
  exact ⟨h.I.grow o b g, (h.row g).farB X1 (by decide)⟩
theorem DcL.take {u' : Value} {x : UInt8} (h : DcL w0 w po K W H M n v L u l) (o : Owns1 w' w0.heap.size 3 u' (dV l ++ [.int .i64 (x.toNat : Int)])) (b : Below w0.heap.size w w') (g : w.grownBy w' u.ownBlock) : DcL w0 w' po K W H M n v L u' (l ++ [x]) := by
  refine ⟨⟨Blk.grownO3 h.I.Hd h.P (by decide) g, Blk.grownO3 h.I.A h.P (by decide) g, Blk.grownO3 h.I.X h.P (by decide) g, h.I.O.kept g (own_apart h.I.O h.P (by decide)), h.I.B.trans b, h.I.np⟩, ?_⟩
  rw [dV_snoc]
  exact o
theorem row_cell {w : World} {base lb n c j : Nat} {e : TypeId} {l : List Value} {x : Value} (h : Owns1 w base e (.slice (some ⟨lb, 0, none⟩) n c) l) (hx : l[j]? = some x) : w.cell? ⟨lb, j, none⟩ = some x := by
  rcases h.form with ⟨h0, _⟩ | ⟨g, cap, hv, _, _, _, _, hc⟩
  · cases h0
  · injection hv with h1 h2 h3
    injection h1 with h4
    injection h4 with h5
    subst h5
    have hj : j < l.length := by
      rcases Nat.lt_or_ge j l.length with h | h
      · exact h
      · rw [List.getElem?_eq_none h] at hx; cases hx
    rw [hc j hj, hx]
theorem row_s {w : World} {base lb n c : Nat} {l : List UInt8} (h : Owns1 w base 3 (.slice (some ⟨lb, 0, none⟩) n c) (dV l)) (j : Nat) (x : UInt8) (hx : l[j]? = some x) : w.cell? ⟨lb, j, none⟩ = some (.int .i64 (x.toNat : Int)) :=
  row_cell h (by rw [dV, List.getElem?_map, hx]; rfl)
end
end Go.Proofs.YtgmgcfjllijhgaaGreat
namespace Go.Proofs.YtgmgcfjllijhgaaGreat
open Go.RowKit
set_option linter.unusedVariables false
set_option linter.unusedSimpArgs false

end Go.Proofs.YtgmgcfjllijhgaaGreat
