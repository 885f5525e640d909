/- qoi: Write. qoi: Write, walked. qoi: Is; the chapter's example. -/
import Derived.Test.YtojobfnbakiicaaGreatQoiEnc
import Derived.Test.YtojobfnbakiicaaGreatWrB
import Derived.Test.YtojobfnbakiicaaGreatRasImg7
import Derived.Test.YtojobfnbakiicaaGreatHand
import Derived.Test.YtojobfnbakiicaaGreatPrefix
namespace Go.Proofs.YtojobfnbakiicaaGreat
open Go.RowKit
set_option linter.unusedVariables false
set_option linter.unusedSimpArgs false

theorem convLit4 (w : World) : (convert 22 22 (.slice (some ⟨w.heap.size, 0, none⟩) 4 4)).run Tryz.prog (w.alloc (.cells #[.int .u8 113, .int .u8 111, .int .u8 105, .int .u8 102] 5)) = .ok (.slice (some ⟨w.heap.size, 0, none⟩) 4 4) (w.alloc (.cells #[.int .u8 113, .int .u8 111, .int .u8 105, .int .u8 102] 5 (4, 5))) :=
  Go.Lib.run_convert_bytes_const w 22 5 _ 4 4 Tryz.underlying22 Tryz.underlying5
def Lit4 (w : World) (g : Nat) : Prop := ∀ (j : Nat) (b : UInt8), qW[j]? = some b → w.cell? ⟨g, j, none⟩ = some (.int .u8 (b.toNat : Int))
theorem lit4_new (w : World) : Lit4 (w.alloc (.cells #[.int .u8 113, .int .u8 111, .int .u8 105, .int .u8 102] 5 (4, 5))) w.heap.size := by
  intro j b hj
  refine (cell_of_row _ _ j _ _ _ (heap_alloc_new w _)).trans ?_
  have hj8 : j < 4 := (List.getElem?_eq_some_iff.1 hj).1
  rcases (by omega : j = 0 ∨ j = 1 ∨ j = 2 ∨ j = 3) with rfl | rfl | rfl | rfl
  all_goals (simp [qW] at hj; subst hj; rfl)
theorem Lit4.below {w w' : World} {g : Nat} (h : Lit4 w g) (hb : Below w.heap.size w w') : Lit4 w' g := fun j b hj => (hb.cell (p := ⟨g, j, none⟩) (World.block_lt_of_cell? w _ (h j b hj))).trans (h j b hj)
theorem Lit4.turn {S : List Nat} {w w' : World} {g : Nat} (h : Lit4 w g) (t : Turn S w w') (hg : g ∉ S) : Lit4 w' g := fun j b hj => (t.cell (World.block_lt_of_cell? w _ (h j b hj)) hg j).trans (h j b hj)
theorem Owns8.form {w : World} {base : Nat} {v : Value} {l : List UInt8} (h : Owns8 w base v l) : ∃ p n k, v = Value.slice p n k := by
  rcases h.2 with h | ⟨g, cap, cur, hv, _⟩
  · exact ⟨_, _, _, h.1⟩
  · exact ⟨_, _, _, hv⟩
theorem OutB.all {w : World} {b : Nat} {v : Value} (h : OutB w b v) : w.cell? ⟨b, 0, none⟩ = some v ∧ w.frozen? ⟨b, 0, none⟩ = false ∧ b < w.heap.size := ⟨Blk.cell h 0, Blk.frozen h 0, Blk.lt h⟩
/-- the bytes' box and what it holds, behind an append and a store -/
theorem OutB.put {w w' : World} {bo base : Nat} {v v' : Value} {l m : List UInt8} (h : OutB w bo v) (own : Owns8 w base v l) (hg : w.grownBy w' v.ownBlock) (own' : Owns8 w' base v' m) : OutB (w'.setCell ⟨bo, 0, none⟩ v') bo v' ∧ Owns8 (w'.setCell ⟨bo, 0, none⟩ v') base v' m ∧ Turn (bo :: v.ownBlock.toList) w (w'.setCell ⟨bo, 0, none⟩ v') := by
  have O3 : OutB w' bo v := (hg.block bo (Blk.lt h) (fun e => own.ne h (by decide) bo e.symm rfl)).trans h
  have T3 : Turn (bo :: v.ownBlock.toList) w w' := Turn.of_own hg (fun k hk => by simp [hk])
  have T4 : Turn [bo] w' (w'.setCell ⟨bo, 0, none⟩ v') := (Turn.refl _ _).set_ 0 _ (by simp)
  exact ⟨(Blk.set_ O3 0 _).eq_ rfl, own'.turn T4 (fun k hk => by simpa using own'.ne O3 (by decide) k hk), T3.trans (T4.mono (by simp))⟩
theorem OutB.putNew {w w' : World} {bo base : Nat} {v v' : Value} {m : List UInt8} (h : OutB w bo v) (hb : Below w.heap.size w w') (own' : Owns8 w' base v' m) : OutB (w'.setCell ⟨bo, 0, none⟩ v') bo v' ∧ Owns8 (w'.setCell ⟨bo, 0, none⟩ v') base v' m ∧ Turn [bo] w (w'.setCell ⟨bo, 0, none⟩ v') := by
  have O3 : OutB w' bo v := Blk.below h hb (Blk.lt h)
  have T3 : Turn [bo] w w' := Turn.of_below hb
  have T4 : Turn [bo] w' (w'.setCell ⟨bo, 0, none⟩ v') := (Turn.refl _ _).set_ 0 _ (by simp)
  exact ⟨(Blk.set_ O3 0 _).eq_ rfl, own'.turn T4 (fun k hk => by simpa using own'.ne O3 (by decide) k hk), T3.trans T4⟩
/-- what holds in Write's loop over pixels -/
structure QwI (w0 w : World) (W H n c b off : Nat) (l : List UInt8) (br bo x : Nat) (v : Value) (q : QE) : Prop where
  P : WrI w0 w W H n c b off l
  R : RunB w br (q.run : Int)
  O : OutB w bo v
  own : Owns8 w w0.heap.size v q.out
  X : CodAt w x q.last q.seen
  nr : w0.heap.size < br
  no : w0.heap.size < bo
  nx : w0.heap.size < x
section
variable {w0 w w' : World} {W H n c b off : Nat} {l : List UInt8} {br bo x : Nat} {v v' : Value} {q : QE}
theorem QwI.vnew (h : QwI w0 w W H n c b off l br bo x v q) : ∀ i ∈ br :: bo :: v.ownBlock.toList, w0.heap.size < i := by
  intro i hi
  simp only [List.mem_cons, Option.mem_toList] at hi
  rcases hi with rfl | rfl | hi
  · exact h.nr
  · exact h.no
  · have h1 := (World.ownsRow.lt h.own i hi).1
    have h2 := h.own.ne h.P.I (by decide) i hi
    omega
theorem QwI.below (h : QwI w0 w W H n c b off l br bo x v q) (hb : Below w.heap.size w w') : QwI w0 w' W H n c b off l br bo x v q :=
  ⟨h.P.next hb, Blk.below h.R hb (Blk.lt h.R), Blk.below h.O hb (Blk.lt h.O), h.own.turn (Turn.of_below (S := []) hb) (by simp), ⟨Blk.below h.X.1 hb (Blk.lt h.X.1), h.X.2⟩, h.nr, h.no, h.nx⟩
theorem QwI.drew (h : QwI w0 w W H n c b off l br bo x v q) : QwI w0 w.drew W H n c b off l br bo x v q := ⟨h.P.drew, h.R, h.O, h.own, h.X, h.nr, h.no, h.nx⟩
/-- a step on a new box of a colour -/
theorem QwI.fresh (h : QwI w0 w W H n c b off l br bo x v q) (hbw : b < w0.heap.size) {qb : Nat} {k : Qc} (hn : w0.heap.size < qb) (y : QB w qb k) (t : Turn [qb] w w') : QwI w0 w' W H n c b off l br bo x v q :=
  ⟨h.P.turn t (by simpa using hn) hbw, Blk.turn h.R t (by simpa using Blk.ne_ h.R y (by decide)), Blk.turn h.O t (by simpa using Blk.ne_ h.O y (by decide)), h.own.turn t (fun k hk => by simpa using h.own.ne y (by decide) k hk), ⟨Blk.turn h.X.1 t (by simpa using Blk.ne_ h.X.1 y (by decide)), h.X.2⟩, h.nr, h.no, h.nx⟩
theorem QwI.flush (h : QwI w0 w W H n c b off l br bo x v q) (hbw : b < w0.heap.size) (r : RunB w' br 0) (o : OutB w' bo v') (own : Owns8 w' w0.heap.size v' (flushL q.run q.out)) (t : Turn (br :: bo :: v.ownBlock.toList) w w') : QwI w0 w' W H n c b off l br bo x v' ⟨0, q.last, q.seen, flushL q.run q.out⟩ :=
  ⟨h.P.turn t h.vnew hbw, r, o, own, ⟨Blk.turn h.X.1 t (by
    simp only [List.mem_cons, Option.mem_toList, not_or]
    exact ⟨Blk.ne_ h.X.1 h.R (by decide), Blk.ne_ h.X.1 h.O (by decide), fun e => h.own.ne h.X.1 (by decide) x e rfl⟩), h.X.2⟩, h.nr, h.no, h.nx⟩
/-- another block stays over a flush -/
theorem QwI.keepF (h : QwI w0 w W H n c b off l br bo x v q) {k : Nat} {tt : TypeId} {cs : Array Value} (hk : Blk w k tt cs) (h1 : tt ≠ 3) (h2 : tt ≠ 22) (h3 : tt ≠ 5) (t : Turn (br :: bo :: v.ownBlock.toList) w w') : Blk w' k tt cs :=
  Blk.turn hk t (by
    simp only [List.mem_cons, Option.mem_toList, not_or]
    exact ⟨Blk.ne_ hk h.R h1, Blk.ne_ hk h.O h2, fun e => h.own.ne hk h3 k e rfl⟩)
theorem QwI.put (h : QwI w0 w W H n c b off l br bo x v q) (hbw : b < w0.heap.size) {m : List UInt8} (o : OutB w' bo v') (own : Owns8 w' w0.heap.size v' m) (t : Turn (bo :: v.ownBlock.toList) w w') : QwI w0 w' W H n c b off l br bo x v' ⟨q.run, q.last, q.seen, m⟩ :=
  ⟨h.P.turn t (fun i hi => h.vnew i (List.mem_cons_of_mem _ hi)) hbw, Blk.turn h.R t (by
    simp only [List.mem_cons, Option.mem_toList, not_or]
    exact ⟨Blk.ne_ h.R h.O (by decide), fun e => h.own.ne h.R (by decide) br e rfl⟩), o, own, ⟨Blk.turn h.X.1 t (by
    simp only [List.mem_cons, Option.mem_toList, not_or]
    exact ⟨Blk.ne_ h.X.1 h.O (by decide), fun e => h.own.ne h.X.1 (by decide) x e rfl⟩), h.X.2⟩, h.nr, h.no, h.nx⟩
theorem QwI.note (h : QwI w0 w W H n c b off l br bo x v q) (hbw : b < w0.heap.size) {k : Qc} {s : List Qc} (y : CodAt w' x k s) (t : Turn [x] w w') : QwI w0 w' W H n c b off l br bo x v ⟨q.run, k, s, q.out⟩ :=
  ⟨h.P.turn t (by simpa using h.nx) hbw, Blk.turn h.R t (by simpa using Blk.ne_ h.R h.X.1 (by decide)), Blk.turn h.O t (by simpa using Blk.ne_ h.O h.X.1 (by decide)), h.own.turn t (fun k hk => by simpa using h.own.ne h.X.1 (by decide) k hk), y, h.nr, h.no, h.nx⟩
theorem QwI.run (h : QwI w0 w W H n c b off l br bo x v q) (hbw : b < w0.heap.size) {m : Nat} {z : Int} (hz : z = (m : Int)) : QwI w0 (w.setCell ⟨br, 0, none⟩ (.int .i64 z)) W H n c b off l br bo x v ⟨m, q.last, q.seen, q.out⟩ := by
  subst hz
  have t : Turn [br] w (w.setCell ⟨br, 0, none⟩ (.int .i64 (m : Int))) := (Turn.refl _ _).set_ 0 _ (by simp)
  exact ⟨h.P.turn t (by simpa using h.nr) hbw, (Blk.set_ h.R 0 _).eq_ rfl, Blk.turn h.O t (by simpa using (Blk.ne_ h.O h.R (by decide))), h.own.turn t (fun k hk => by simpa using h.own.ne h.R (by decide) k hk), ⟨Blk.turn h.X.1 t (by simpa using Blk.ne_ h.X.1 h.R (by decide)), h.X.2⟩, h.nr, h.no, h.nx⟩
end
end Go.Proofs.YtojobfnbakiicaaGreat
namespace Go.Proofs.YtojobfnbakiicaaGreat
open Go.RowKit
set_option linter.unusedVariables false
set_option linter.unusedSimpArgs false

theorem cells_two' (w : World) (j : Nat) (b : UInt8) (hj : ([4, 0] : List UInt8)[j]? = some b) : (w.alloc (.cells #[.int .u8 4, .int .u8 0] 5)).cell? ⟨w.heap.size, j, none⟩ = some (.int .u8 (b.toNat : Int)) :=
  cells_new w [4, 0] _ rfl j b hj
theorem cells_end (w : World) (j : Nat) (b : UInt8) (hj : qend[j]? = some b) : (w.alloc (.cells #[.int .u8 0, .int .u8 0, .int .u8 0, .int .u8 0, .int .u8 0, .int .u8 0, .int .u8 0, .int .u8 1] 5)).cell? ⟨w.heap.size, j, none⟩ = some (.int .u8 (b.toNat : Int)) :=
  cells_new w qend _ rfl j b hj
theorem prod_wrap' {W H N : Nat} (h : W * H = N) (hb : N ≤ 1099511627776) : wrap64 ((W : Int) * (H : Int)) = (N : Int) := by
  have e : (W : Int) * (H : Int) = (N : Int) := by rw [← h, Int.natCast_mul]
  rw [e]
  exact wrap64_id _ (by omega) (by omega)
theorem vnew1 {w0 w : World} {W H n c b off bo : Nat} {l m : List UInt8} {v : Value} (P : WrI w0 w W H n c b off l) (own : Owns8 w w0.heap.size v m) (no : w0.heap.size < bo) : ∀ i ∈ bo :: v.ownBlock.toList, w0.heap.size < i := by
  intro i hi
  simp only [List.mem_cons, Option.mem_toList] at hi
  rcases hi with rfl | hi
  · exact no
  · have h1 := (World.ownsRow.lt own i hi).1
    have h2 := own.ne P.I (by decide) i hi
    omega
theorem flat_cut {L : List Qc} {k : Nat} {q : Qc} (h : L[k]? = some q) : ((flat L).drop (4 * k)).take 4 = [q.r, q.g, q.b, q.a] := by
  have := flat_at L k q h []
  rwa [List.append_nil] at this
set_option maxRecDepth 100000 in
set_option maxHeartbeats 8000000 in
theorem qoiWrite_yes {w : World} {W H N n c b off : Nat} {l : List UInt8} {L : List Qc} (hW : 1 ≤ W ∧ W ≤ 60) (hH : 1 ≤ H ∧ H ≤ 60) (hN : W * H = N) (hR : RightP W H n) (hl : n = l.length) (hL : flat L = l) (hLN : L.length = N) (hnc : n ≤ c) (hcell : ∀ j (hj : j < l.length), w.cell? ⟨b, off + j, none⟩ = some (.int .u8 (l[j].toNat : Int))) (hbw : b < w.heap.size) :
    Calls Tryz.prog 13 #[.agg #[.int .i64 (W : Int), .int .i64 (H : Int), .slice (some ⟨b, off, none⟩) n c]] w fun e w' => e = .returned (.tuple #[.string (strOf (qoiFile W H L)), .int .i64 0]) ∧ Below w.heap.size w w' := by
  have HRI := Lib.hid hR
  have HR := Lib.hid (fun w => right_bool (a := some ⟨b, off, none⟩) (c := c) (decide_eq_true hR) w)
  have HL := Lib.hid (And.intro hl (And.intro hL (And.intro hLN hnc)))
  have HN := Lib.hid hN
  have HW := Lib.hid hW
  have HH := Lib.hid hH
  have hN60 : N ≤ 3600 := by rw [← hN]; exact Nat.mul_le_mul hW.2 hH.2
  have hNI := prod_wrap' hN (by omega)
  have hn4 : n = 4 * N := by rw [hl, ← hL, flat_len, hLN]
  obtain ⟨hi0, hi1⟩ := idx2 (.int .i64 (W : Int)) (.int .i64 (H : Int))
  have hWI : (W : Int) ≤ 60 := by omega
  have hHI : (H : Int) ≤ 60 := by omega
  obtain ⟨hw1, hw2, hw3⟩ := small_div hW.2
  obtain ⟨hh1, hh2, hh3⟩ := small_div hH.2
  have P0 : WrI w (w.alloc (.cells #[.int .i64 (W : Int), .int .i64 (H : Int), .slice (some ⟨b, off, none⟩) n c] 24)) W H n c b off l :=
    ⟨IB.new w (W : Int) (H : Int) (some ⟨b, off, none⟩) n c, fun j hj => (World.cell?_alloc_lt _ _ _ hbw).trans (hcell j hj), (Below.refl _ _).alloc (Nat.le_refl _) _⟩
  clear hl hcell hR hL hLN hnc hN hn4 hW hH
  go_enter Tryz.func13, Tryz.ntmps13
  go_wp2_with (go_at_call 47; refine (HR.out _).mono ?_; rintro e w1 ⟨rfl, b1⟩; have P1 := P0.next b1; obtain ⟨e0, e1, e2, v0, v1, v2, il⟩ := IB.all P1.I; have hcv := convLit4 w1)
  have P2 : WrI w ((w1.alloc (.cells #[.int .u8 113, .int .u8 111, .int .u8 105, .int .u8 102] 5 (4, 5))).alloc (.cells #[.slice (some ⟨w1.heap.size, 0, none⟩) 4 4] 22)) W H n c b off l := (P1.next ((Below.refl _ _).alloc (Nat.le_refl _) _)).next ((Below.refl _ _).alloc (Nat.le_refl _) _)
  have G2 : Lit4 ((w1.alloc (.cells #[.int .u8 113, .int .u8 111, .int .u8 105, .int .u8 102] 5 (4, 5))).alloc (.cells #[.slice (some ⟨w1.heap.size, 0, none⟩) 4 4] 22)) w1.heap.size := (lit4_new w1).below ((Below.refl _ _).alloc (Nat.le_refl _) _)
  have O2 : OutB ((w1.alloc (.cells #[.int .u8 113, .int .u8 111, .int .u8 105, .int .u8 102] 5 (4, 5))).alloc (.cells #[.slice (some ⟨w1.heap.size, 0, none⟩) 4 4] 22)) (w1.heap.size + 1) (.slice (some ⟨w1.heap.size, 0, none⟩) 4 4) := Blk.new_at _ _ _ (by simp)
  have nb2 : w.heap.size < w1.heap.size + 1 := by have := P1.B.size; omega
  generalize (w1.alloc (.cells #[.int .u8 113, .int .u8 111, .int .u8 105, .int .u8 102] 5 (4, 5))).alloc (.cells #[.slice (some ⟨w1.heap.size, 0, none⟩) 4 4] 22) = w2 at P2 G2 O2 ⊢
  clear hcv b1 e0 e1 e2 v0 v1 v2 il P1
  generalize w1.heap.size + 1 = bo at O2 nb2 ⊢
  generalize w1.heap.size = g1 at G2 O2 ⊢
  have hbo : bo ≠ g1 := fun e => by
    subst e
    have h1 := G2 0 113 rfl
    rw [Blk.cell O2 0] at h1
    cases h1
  have HP2 := Lib.hid P2
  have HG2 := Lib.hid (And.intro G2 O2)
  clear P0 P2 G2 O2
  go_loopg [23] 2 (fun gh v23 wr => Hid (WrI w wr W H n c b off l) ∧ ((gh = 2 ∧ v23 = .int .i64 0 ∧ Hid (Lit4 wr g1 ∧ OutB wr bo (.slice (some ⟨g1, 0, none⟩) 4 4))) ∨ (gh = 1 ∧ v23 = .int .i64 1 ∧ ∃ v, Hid (OutB wr bo v ∧ Owns8 wr w.heap.size v (qW ++ [0, 0, 0, UInt8.ofNat W]))) ∨ (gh = 0 ∧ v23 = .int .i64 2 ∧ ∃ v, Hid (OutB wr bo v ∧ Owns8 wr w.heap.size v (qW ++ [0, 0, 0, UInt8.ofNat W] ++ [0, 0, 0, UInt8.ofNat H])))))
  case atStart => exact ⟨HP2, .inl ⟨rfl, rfl, HG2⟩⟩
  case round =>
    obtain ⟨hX, hor⟩ := hrel
    clear HP2 HG2
    rcases hor with ⟨rfl, rfl, hG⟩ | ⟨rfl, rfl, v, hO⟩ | ⟨rfl, rfl, v, hO⟩
    · clear hh1 hh2 hh3
      obtain ⟨o0, oz, ol⟩ := OutB.all hG.out.2
      go_wp2_with (at_builtin; refine wpList_append_full rfl (.tmp 26) (.tmp 38) rfl w.heap.size g1 4 4 qW [0, 0, 0, UInt8.ofNat W] rfl rfl (hG.out.1.below ((Below.refl _ _).alloc (Nat.le_refl _) _)) wr.heap.size 4 4 rfl rfl (cells_hd wr W HW.out.2) (by simp [qW]) (by simp [qW]) (by have := hX.out.B.size; simp; omega) ?_; intro v3 w3 own3 b3; obtain ⟨p3, n3, k3, rfl⟩ := own3.form; have O3 := OutB.putNew (Blk.alloc hG.out.2 _) b3 own3; clear o0 oz ol; obtain ⟨o0, oz, ol⟩ := OutB.all (Blk.below (Blk.alloc hG.out.2 (.cells #[.int .u8 0, .int .u8 0, .int .u8 0, .int .u8 (W : Int)] 5)) b3 (Blk.lt (Blk.alloc hG.out.2 _)) : OutB w3 bo _))
      go_roundg 1
      case measure => decide
      case rel => exact ⟨Lib.hid ((hX.out.next ((Below.refl _ _).alloc (Nat.le_refl _) _)).turn O3.2.2 (by simpa using nb2) hbw), .inr (.inl ⟨rfl, rfl, _, Lib.hid ⟨O3.1, O3.2.1⟩⟩)⟩
    · clear hw1 hw2 hw3
      have own := hO.out.2
      obtain ⟨o0, oz, ol⟩ := OutB.all hO.out.1
      go_wp2_with (at_builtin; refine wpList_append_row rfl (.tmp 26) (.tmp 38) rfl w.heap.size _ _ [0, 0, 0, UInt8.ofNat H] rfl (own.alloc _) wr.heap.size 4 4 rfl rfl (cells_hd wr H HH.out.2) (by simp [qW]) (by have := hX.out.B.size; simp; omega) ?_; intro v3 w3 own3 b3 hg3; obtain ⟨p3, n3, k3, rfl⟩ := own3.form; have O3 := OutB.put (Blk.alloc hO.out.1 _) (own.alloc _) hg3 own3; have O4 : OutB w3 bo v := (hg3.block bo (Blk.lt (Blk.alloc hO.out.1 _)) (fun e => own.ne hO.out.1 (by decide) bo e.symm rfl)).trans (Blk.alloc hO.out.1 _); clear o0 oz ol; obtain ⟨o0, oz, ol⟩ := OutB.all O4)
      go_roundg 0
      case measure => decide
      case rel => exact ⟨Lib.hid ((hX.out.next ((Below.refl _ _).alloc (Nat.le_refl _) _)).turn O3.2.2 (vnew1 hX.out own nb2) hbw), .inr (.inr ⟨rfl, rfl, _, Lib.hid ⟨O3.1, O3.2.1⟩⟩)⟩
    · have own := hO.out.2
      obtain ⟨o0, oz, ol⟩ := OutB.all hO.out.1
      obtain ⟨e0, e1, e2, v0, v1, v2, il⟩ := IB.all hX.out.I
      clear hw1 hw2 hw3 hh1 hh2 hh3
      go_wp2_with (first
        | (at_builtin; refine wpList_append_row rfl (.tmp 41) (.tmp 42) rfl w.heap.size _ _ [4, 0] rfl (own.alloc _) wr.heap.size 2 2 rfl rfl (cells_two' wr) (by simp [qW]) (by have := hX.out.B.size; simp; omega) ?_; intro v3 w3 own3 b3 hg3; obtain ⟨p3, n3, k3, rfl⟩ := own3.form; have O3 := OutB.put (Blk.alloc hO.out.1 _) (own.alloc _) hg3 own3; have O4 : OutB w3 bo v := (hg3.block bo (Blk.lt (Blk.alloc hO.out.1 _)) (fun e => own.ne hO.out.1 (by decide) bo e.symm rfl)).trans (Blk.alloc hO.out.1 _); have P4 := (hX.out.next ((Below.refl _ _).alloc (Nat.le_refl _) _)).turn O3.2.2 (vnew1 hX.out own nb2) hbw; clear o0 oz ol e0 e1 e2 v0 v1 v2 il; obtain ⟨o0, oz, ol⟩ := OutB.all O4)
        | (go_at_call 48; refine (qoiBegin _).mono ?_; rintro e w4 ⟨x, rfl, hxn, X4, b4⟩; have P5 := P4.next b4; have O5 : OutB w4 bo _ := Blk.below O3.1 b4 (Blk.lt O3.1); have own5 := O3.2.1.turn (Turn.of_below (S := []) b4) (by simp); have hxw : w.heap.size < x := (by have h1 := Blk.lt P4.I; omega); clear o0 oz ol; obtain ⟨e0, e1, e2, v0, v1, v2, il⟩ := IB.all P5.I))
      have I6 : QwI w (w4.alloc (.cells #[.int .i64 0] 3)) W H n c b off l w4.heap.size bo x (.slice p3 n3 k3) (qe0 W H) := ⟨P5.next ((Below.refl _ _).alloc (Nat.le_refl _) _), Blk.new _ _ _, Blk.alloc O5 _, own5.alloc _, ⟨Blk.alloc X4.1 _, X4.2⟩, Nat.lt_of_lt_of_le hxw (Nat.le_of_lt (Blk.lt X4.1)), nb2, hxw⟩
      generalize w4.alloc (.cells #[.int .i64 0] 3) = w6 at I6 ⊢
      generalize w4.heap.size = br at I6 ⊢
      rw [hNI]
      have HI6 := Lib.hid I6
      clear I6 P4 O3 O4 own3 b3 hg3 P5 O5 own5 X4 b4 hxn e0 e1 e2 v0 v1 v2 il hO hX own hNI hi0 hi1
      go_loopg [51] N (fun gh v51 wr => ∃ k, k + gh = N ∧ v51 = .int .i64 (k : Int) ∧ Hid (∃ v, QwI w wr W H n c b off l br bo x v ((qe0 W H).all (L.take k))))
      case atStart => exact ⟨0, by omega, rfl, Lib.hid ⟨_, HI6.out⟩⟩
      case round =>
        obtain ⟨k, hk, rfl, hI⟩ := hrel
        clear HI6
        obtain ⟨v, I⟩ := hI.out
        clear hI
        have hqok := (qe0_ok W H).all (L.take k)
        have hqlen := (qe0 W H).all_len (L.take k)
        by_cases hlt : k < N
        · have hltI : (k : Int) < (N : Int) := by omega
          obtain ⟨q, hq⟩ : ∃ q, L[k]? = some q := ⟨L[k]'(by rw [HL.out.2.2.1]; exact hlt), List.getElem?_eq_getElem _⟩
          have htake : L.take (k + 1) = L.take k ++ [q] := by rw [List.take_add_one, hq]; rfl
          have hall : (qe0 W H).all (L.take (k + 1)) = ((qe0 W H).all (L.take k)).step q := by rw [htake, QE.all_append]; rfl
          have HALL := Lib.hid hall
          obtain ⟨X, hX⟩ : ∃ X, k % W = X := ⟨_, rfl⟩
          obtain ⟨Y, hY⟩ : ∃ Y, k / W = Y := ⟨_, rfl⟩
          have hW0 : 0 < W := HW.out.1
          have hXW : X < W := by rw [← hX]; exact Nat.mod_lt _ hW0
          have hYW : Y * W + X = k := by rw [← hX, ← hY, Nat.mul_comm]; exact Nat.div_add_mod k W
          have hYH : Y < H := by rw [← hY]; exact (Nat.div_lt_iff_lt_mul hW0).2 (by rw [Nat.mul_comm, HN.out]; exact hlt)
          have hWne : ¬ (W : Int) = 0 := by omega
          have hWn : ¬ W = 0 := by omega
          have hwY : IntKind.i64.wrap (Y : Int) = (Y : Int) := IntWalk.i64_in (Y : Int) (by omega)
          have e1' : (k : Int) % (W : Int) = (X : Int) := by rw [← hX]; exact (Int.natCast_emod k W).symm
          have e2' : (k : Int) / (W : Int) = (Y : Int) := by rw [← hY]; exact (Int.natCast_ediv k W).symm
          have e3' : (k : Int).tmod (W : Int) = (X : Int) := by rw [Int.tmod_eq_emod_of_nonneg (Int.natCast_nonneg _)]; exact e1'
          have e4' : (k : Int).tdiv (W : Int) = (Y : Int) := by rw [Int.tdiv_eq_ediv_of_nonneg (Int.natCast_nonneg _)]; exact e2'
          obtain ⟨pr, hpr⟩ : ∃ pr, Y * W = pr := ⟨_, rfl⟩
          have HPR := Lib.hid hpr
          have HI4 : Hid (4 * (pr + X) = 4 * k) := Lib.hid (by rw [← hpr, hYW])
          have HIN : Hid (4 * k + 4 ≤ n) := Lib.hid (by rw [HL.out.1, ← HL.out.2.1, flat_len, HL.out.2.2.1]; omega)
          have HQ4 : Hid ((l.drop (4 * k)).take 4 = [q.r, q.g, q.b, q.a]) := Lib.hid (by rw [← HL.out.2.1]; exact flat_cut hq)
          have hkI : (k : Int) ≤ 3600 := by omega
          have HKN := Lib.hid hk
          have HX := Lib.hid I
          have HQOK := Lib.hid hqok
          have HQL : Hid (((qe0 W H).all (L.take k)).out.length ≤ 14 + 6 * 3600) := Lib.hid (by have h2 : (qe0 W H).out.length = 14 := rfl; rw [List.length_take] at hqlen; omega)
          clear hq htake hall hX hY hYW hpr hk I hqok hqlen
          generalize (qe0 W H).all (L.take k) = Q at HALL HX HQOK HQL
          go_upto_region 16 with fail
          go_cut [11] (fun v11 wc => ∃ qb, v11 = .pointer (some ⟨qb, 0, none⟩) ∧ Hid (QwI w wc W H n c b off l br bo x v Q ∧ QB wc qb q ∧ w.heap.size < qb))
          case first =>
            obtain ⟨e0, e1, e2, v0, v1, v2, il⟩ := IB.all HX.out.P.I
            have hwr : w.heap.size < wr.heap.size := Blk.lt HX.out.P.I
            refine wp_region_held_drew (S := (fun w' => w'.cell? ⟨w.heap.size, 0, none⟩ = some (.int .i64 (W : Int)) ∧ w'.cell? ⟨w.heap.size, 1, none⟩ = some (.int .i64 (H : Int)) ∧ w'.cell? ⟨w.heap.size, 2, none⟩ = some (.slice (some ⟨b, off, none⟩) n c))) (by kernel_rfl) ⟨e0, e1, e2⟩ (fun hHeld => ?_)
            refine wpAnyH_take (i := 0) (v := ?_) rfl (by kernel_rfl) (by kernel_rfl) (by kernel_rfl) (fun _ _ _ h => h) (Or.inl ⟨by kernel_rfl, ?_⟩) (by assumption) ?_
            rotate_left
            · intro w hSw; (try dsimp only at hSw); go_simp; (try with_reducible rfl)
            (try simp only [Act.put, List.setIfInBounds_toArray, List.set_cons_zero, List.set_cons_succ])
            refine wpAnyH_take (i := 1) (v := ?_) rfl (by kernel_rfl) (by kernel_rfl) (by kernel_rfl) (fun _ _ _ h => h) (Or.inl ⟨by kernel_rfl, ?_⟩) (by assumption) ?_
            rotate_left
            · intro w hSw; (try dsimp only at hSw); go_simp; (try with_reducible rfl)
            (try simp only [Act.put, List.setIfInBounds_toArray, List.set_cons_zero, List.set_cons_succ])
            refine wpAnyH_take (i := 2) (v := ?_) rfl (by kernel_rfl) (by kernel_rfl) (by kernel_rfl) (fun _ _ _ h => h) (Or.inl ⟨by kernel_rfl, ?_⟩) (by assumption) ?_
            rotate_left
            · intro w hSw; (try dsimp only at hSw); go_simp; (try with_reducible rfl)
            (try simp only [Act.put, List.setIfInBounds_toArray, List.set_cons_zero, List.set_cons_succ])
            refine wpAnyH_take (i := 3) (v := ?_) rfl (by kernel_rfl) (by kernel_rfl) (by kernel_rfl) (fun _ _ _ h => h) (Or.inl ⟨by kernel_rfl, ?_⟩) (by assumption) ?_
            rotate_left
            · intro w hSw; (try dsimp only at hSw); go_simp; (try with_reducible rfl)
            (try simp only [Act.put, List.setIfInBounds_toArray, List.set_cons_zero, List.set_cons_succ])
            refine wpAnyH_take (i := 4) (v := ?_) rfl (by kernel_rfl) (by kernel_rfl) (by kernel_rfl) (fun _ _ _ h => h) (Or.inl ⟨by kernel_rfl, ?_⟩) (by assumption) ?_
            rotate_left
            · intro w hSw; (try dsimp only at hSw); go_simp; (try with_reducible rfl)
            (try simp only [Act.put, List.setIfInBounds_toArray, List.set_cons_zero, List.set_cons_succ])
            refine wpAnyH_take (i := 5) (v := ?_) rfl (by kernel_rfl) (by kernel_rfl) (by kernel_rfl) (fun _ _ _ h => h) (Or.inl ⟨by kernel_rfl, ?_⟩) (by assumption) ?_
            rotate_left
            · intro w hSw; (try dsimp only at hSw); go_simp; (try with_reducible rfl)
            (try simp only [Act.put, List.setIfInBounds_toArray, List.set_cons_zero, List.set_cons_succ])
            refine wpAnyH_take (i := 6) (v := ?_) rfl (by kernel_rfl) (by kernel_rfl) (by kernel_rfl) (fun _ _ _ h => h) (Or.inl ⟨by kernel_rfl, ?_⟩) (by assumption) ?_
            rotate_left
            · intro w hSw; (try dsimp only at hSw); go_simp; (try with_reducible rfl)
            (try simp only [Act.put, List.setIfInBounds_toArray, List.set_cons_zero, List.set_cons_succ])
            refine wpAnyH_take (i := 7) (v := ?_) rfl (by kernel_rfl) (by kernel_rfl) (by kernel_rfl) (fun _ _ _ h => h) (Or.inl ⟨by kernel_rfl, ?_⟩) (by assumption) ?_
            rotate_left
            · intro w hSw; (try dsimp only at hSw); go_simp; (try with_reducible rfl)
            (try simp only [Act.put, List.setIfInBounds_toArray, List.set_cons_zero, List.set_cons_succ])
            refine wpAnyH_take (i := 8) (v := ?_) rfl (by kernel_rfl) (by kernel_rfl) (by kernel_rfl) (fun _ _ _ h => h) (Or.inl ⟨by kernel_rfl, ?_⟩) (by assumption) ?_
            rotate_left
            · intro w hSw; (try dsimp only at hSw); go_simp; (try with_reducible rfl)
            (try simp only [Act.put, List.setIfInBounds_toArray, List.set_cons_zero, List.set_cons_succ])
            refine wpAnyH_ready (rs := [9, 13]) (by kernel_rfl) (by simp) ?_
            refine AllReadyH.cons rfl (fun K hK => ?_) (AllReadyH.cons rfl (fun K hK => ?_) AllReadyH.nil)
            · go_simp
              refine (pixel_yes (X := X) (Y := Y) (p := pr) (i := 4 * k) (c0 := q.r) (c1 := q.g) (c2 := q.b) (c3 := q.a) HRI.out HL.out.1 HX.out.drew.P.C HL.out.2.2.2 hXW hYH HPR.out HI4.out HIN.out HQ4.out).mono ?_
              rintro e w5 ⟨rfl, b5⟩
              have X5 := HX.out.drew.below b5
              obtain ⟨f0, f1, f2, u0, u1, u2, jl⟩ := IB.all X5.P.I
              refine hK.out _ _ ⟨f0, f1, f2⟩ (fun hHeld' => ?_)
              clear hK K hHeld
              have hHeld := hHeld'
              clear hHeld'
              (try simp only [Act.put, List.setIfInBounds_toArray, List.set_cons_zero, List.set_cons_succ])
              refine wpAnyH_take (i := 10) (v := ?_) rfl (by kernel_rfl) (by kernel_rfl) (by kernel_rfl) (fun _ _ _ h => h) (Or.inl ⟨by kernel_rfl, ?_⟩) (by assumption) ?_
              rotate_left
              · intro w hSw; (try dsimp only at hSw); go_simp; (try with_reducible rfl)
              (try simp only [Act.put, List.setIfInBounds_toArray, List.set_cons_zero, List.set_cons_succ])
              refine wpAnyH_take (i := 11) (v := ?_) rfl (by kernel_rfl) (by kernel_rfl) (by kernel_rfl) (fun _ _ _ h => h) (Or.inl ⟨by kernel_rfl, ?_⟩) (by assumption) ?_
              rotate_left
              · intro w hSw; (try dsimp only at hSw); go_simp; (try with_reducible rfl)
              (try simp only [Act.put, List.setIfInBounds_toArray, List.set_cons_zero, List.set_cons_succ])
              refine wpAnyH_take (i := 12) (v := ?_) rfl (by kernel_rfl) (by kernel_rfl) (by kernel_rfl) (fun _ _ _ h => h) (Or.inl ⟨by kernel_rfl, ?_⟩) (by assumption) ?_
              rotate_left
              · intro w hSw; (try dsimp only at hSw); go_simp; (try with_reducible rfl)
              (try simp only [Act.put, List.setIfInBounds_toArray, List.set_cons_zero, List.set_cons_succ])
              refine wpAnyH_ready (rs := [13]) (by kernel_rfl) (by simp) ?_
              refine AllReadyH.cons rfl (fun K hK => ?_) AllReadyH.nil
              go_simp
              have X6 := X5.below ((Below.refl _ _).alloc (Nat.le_refl _) (.cells #[.int .u8 0, .int .u8 0, .int .u8 0, .int .u8 0] 67))
              obtain ⟨g0, g1', g2, _, _, _, _⟩ := IB.all X6.P.I
              refine hK.out _ _ ⟨g0, g1', g2⟩ (fun hHeld' => ?_)
              clear hK K hHeld
              have hHeld := hHeld'
              clear hHeld'
              (try simp only [Act.put, List.setIfInBounds_toArray, List.set_cons_zero, List.set_cons_succ])
              refine wpAnyH_ready (rs := [14]) (by kernel_rfl) (by simp) ?_
              refine AllReadyH.cons rfl (fun K hK => ?_) AllReadyH.nil
              go_simp
              have X7 := X5.below ((Below.refl _ _).alloc (Nat.le_refl _) (.cells #[.int .u8 (q.r.toNat : Int), .int .u8 (q.g.toNat : Int), .int .u8 (q.b.toNat : Int), .int .u8 (q.a.toNat : Int)] 67))
              have Q7 : QB (w5.alloc (.cells #[.int .u8 (q.r.toNat : Int), .int .u8 (q.g.toNat : Int), .int .u8 (q.b.toNat : Int), .int .u8 (q.a.toNat : Int)] 67)) w5.heap.size q := Blk.new _ _ _
              obtain ⟨k0, k1, k2, _, _, _, _⟩ := IB.all X7.P.I
              refine hK.out _ _ ⟨k0, k1, k2⟩ (fun hHeld' => ?_)
              clear hK K hHeld
              have hHeld := hHeld'
              clear hHeld'
              (try simp only [Act.put, List.setIfInBounds_toArray, List.set_cons_zero, List.set_cons_succ])
              refine wpAnyH_takeD (i := 15) (v := ?_) 12 rfl (by kernel_rfl) (by kernel_rfl) (by kernel_rfl) (by kernel_rfl) (fun _ _ _ h => h) (Or.inl ⟨by kernel_rfl, ?_⟩) (by assumption) ?_
              rotate_left
              · intro w hSw; (try dsimp only at hSw); go_simp; (try with_reducible rfl)
              (try simp only [Act.put, List.setIfInBounds_toArray, List.set_cons_zero, List.set_cons_succ])
              refine wpAnyH_done (by kernel_rfl) ?_ _
              (try simp only [Act.put, List.setIfInBounds_toArray, List.set_cons_zero, List.set_cons_succ])
              go_wp2_with fail
              go_meet
              case rel => exact ⟨_, rfl, Lib.hid ⟨X7, Q7, Blk.lt X5.P.I⟩⟩
            · go_simp
              have X4 := HX.out.drew.below ((Below.refl _ _).alloc (Nat.le_refl _) (.cells #[.int .u8 0, .int .u8 0, .int .u8 0, .int .u8 0] 67))
              have Q4 : QB (wr.drew.alloc (.cells #[.int .u8 0, .int .u8 0, .int .u8 0, .int .u8 0] 67)) wr.heap.size qnone := Blk.new _ _ _
              obtain ⟨g0, g1', g2, _, _, _, _⟩ := IB.all X4.P.I
              refine hK.out _ _ ⟨g0, g1', g2⟩ (fun hHeld' => ?_)
              clear hK K hHeld
              have hHeld := hHeld'
              clear hHeld'
              (try simp only [Act.put, List.setIfInBounds_toArray, List.set_cons_zero, List.set_cons_succ])
              refine wpAnyH_ready (rs := [9]) (by kernel_rfl) (by simp) ?_
              refine AllReadyH.cons rfl (fun K hK => ?_) AllReadyH.nil
              go_simp
              refine (pixel_yes (X := X) (Y := Y) (p := pr) (i := 4 * k) (c0 := q.r) (c1 := q.g) (c2 := q.b) (c3 := q.a) HRI.out HL.out.1 X4.P.C HL.out.2.2.2 hXW hYH HPR.out HI4.out HIN.out HQ4.out).mono ?_
              rintro e w5 ⟨rfl, b5⟩
              have X5 := X4.below b5
              have Q5 : QB w5 wr.heap.size qnone := Blk.below Q4 b5 (Blk.lt Q4)
              obtain ⟨f0, f1, f2, u0, u1, u2, jl⟩ := IB.all X5.P.I
              obtain ⟨p0, p1, p2, p3, pl⟩ := QB.all Q5
              have pz0 := Blk.frozen Q5 0
              have pz1 := Blk.frozen Q5 1
              have pz2 := Blk.frozen Q5 2
              have pz3 := Blk.frozen Q5 3
              refine hK.out _ _ ⟨f0, f1, f2⟩ (fun hHeld' => ?_)
              clear hK K hHeld
              have hHeld := hHeld'
              clear hHeld'
              (try simp only [Act.put, List.setIfInBounds_toArray, List.set_cons_zero, List.set_cons_succ])
              refine wpAnyH_take (i := 10) (v := ?_) rfl (by kernel_rfl) (by kernel_rfl) (by kernel_rfl) (fun _ _ _ h => h) (Or.inl ⟨by kernel_rfl, ?_⟩) (by assumption) ?_
              rotate_left
              · intro w hSw; (try dsimp only at hSw); go_simp; (try with_reducible rfl)
              (try simp only [Act.put, List.setIfInBounds_toArray, List.set_cons_zero, List.set_cons_succ])
              refine wpAnyH_take (i := 11) (v := ?_) rfl (by kernel_rfl) (by kernel_rfl) (by kernel_rfl) (fun _ _ _ h => h) (Or.inl ⟨by kernel_rfl, ?_⟩) (by assumption) ?_
              rotate_left
              · intro w hSw; (try dsimp only at hSw); go_simp; (try with_reducible rfl)
              (try simp only [Act.put, List.setIfInBounds_toArray, List.set_cons_zero, List.set_cons_succ])
              refine wpAnyH_take (i := 12) (v := ?_) rfl (by kernel_rfl) (by kernel_rfl) (by kernel_rfl) (fun _ _ _ h => h) (Or.inl ⟨by kernel_rfl, ?_⟩) (by assumption) ?_
              rotate_left
              · intro w hSw; (try dsimp only at hSw); go_simp; (try with_reducible rfl)
              (try simp only [Act.put, List.setIfInBounds_toArray, List.set_cons_zero, List.set_cons_succ])
              refine wpAnyH_ready (rs := [14]) (by kernel_rfl) (by simp) ?_
              refine AllReadyH.cons rfl (fun K hK => ?_) AllReadyH.nil
              go_simp
              have T7 : Turn [wr.heap.size] w5 (stQ w5 wr.heap.size 0 q) := (Turn.refl _ _).stQ (by simp)
              have X7 := X5.fresh hbw hwr Q5 T7
              have Q7 : QB (stQ w5 wr.heap.size 0 q) wr.heap.size q := ((((Blk.set_ Q5 0 _).set_ 1 _).set_ 2 _).set_ 3 _).eq_ rfl
              obtain ⟨k0, k1, k2, _, _, _, _⟩ := IB.all X7.P.I
              refine hK.out _ _ ⟨k0, k1, k2⟩ (fun hHeld' => ?_)
              clear hK K hHeld
              have hHeld := hHeld'
              clear hHeld'
              (try simp only [Act.put, List.setIfInBounds_toArray, List.set_cons_zero, List.set_cons_succ])
              refine wpAnyH_takeD (i := 15) (v := ?_) 12 rfl (by kernel_rfl) (by kernel_rfl) (by kernel_rfl) (by kernel_rfl) (fun _ _ _ h => h) (Or.inl ⟨by kernel_rfl, ?_⟩) (by assumption) ?_
              rotate_left
              · intro w hSw; (try dsimp only at hSw); go_simp; (try with_reducible rfl)
              (try simp only [Act.put, List.setIfInBounds_toArray, List.set_cons_zero, List.set_cons_succ])
              refine wpAnyH_done (by kernel_rfl) ?_ _
              (try simp only [Act.put, List.setIfInBounds_toArray, List.set_cons_zero, List.set_cons_succ])
              go_wp2_with fail
              go_meet
              case rel => exact ⟨_, rfl, Lib.hid ⟨X7, Q7, hwr⟩⟩
          case rest =>
            obtain ⟨qb, rfl, hC⟩ := hcut
            obtain ⟨X7, Q7, nq7⟩ := hC.out
            obtain ⟨p0, p1, p2, p3, pl⟩ := QB.all Q7
            obtain ⟨l0, l1, l2, l3⟩ := CodAt.cell X7.X 0 Q.last rfl
            simp only [Nat.zero_mul, Nat.zero_add] at l0 l1 l2 l3
            have xl := Blk.lt X7.X.1
            have HRU := HQOK.out.run
            by_cases hq : q = Q.last
            · have hst : Q.step q = if Q.run + 1 = 62 then ⟨0, q, Q.seen.set (qplace q) q, flushL 62 Q.out⟩ else ⟨Q.run + 1, q, Q.seen.set (qplace q) q, Q.out⟩ := by unfold QE.step; rw [if_pos hq]
              rw [← hq] at l0 l1 l2 l3
              have r0 : wc.cell? ⟨br, 0, none⟩ = some (.int .i64 (Q.run : Int)) := Blk.cell X7.R 0
              have rz := Blk.frozen X7.R 0
              have rl := Blk.lt X7.R
              have hrb : (Q.run : Int) ≤ 61 := by omega
              have HX7 := Lib.hid (And.intro X7 Q7)
              have nqr : qb ≠ br := Blk.ne_ Q7 X7.R (by decide)
              have nrq := nqr.symm
              have HST := Lib.hid (HALL.out.trans hst)
              clear X7 Q7 hst hC hq
              by_cases h62 : Q.run + 1 = 62
              · have h62I : (Q.run : Int) + 1 = 62 := by omega
                have X8 := (HX7.out.1.run hbw (m := Q.run + 1) (z := 62) (by omega)).drew
                have HX8 := Lib.hid X8
                have Q8 : QB (wc.setCell ⟨br, 0, none⟩ (.int .i64 62)).drew qb q := Blk.drew (Blk.far HX7.out.2 (p := ⟨br, 0, none⟩) nqr _)
                have HQ8 := Lib.hid Q8
                clear X8 Q8
                have HST2 : Hid ((qe0 W H).all (L.take (k + 1)) = ⟨0, q, Q.seen.set (qplace q) q, flushL (Q.run + 1) Q.out⟩) := Lib.hid (by rw [HST.out, if_pos h62, h62])
                have HF := Lib.hid (fun (w' : World) v' (I : QwI w w' W H n c b off l br bo x v' ⟨Q.run + 1, Q.last, Q.seen, Q.out⟩) => qoiFlush (n := Q.run + 1) (by omega) I.R I.O I.own I.P.B.size (show Q.out.length < 100000 by have := HQL.out; omega))
                go_wp2_with fail
                go_region
                go_wp2_with (first
                  | (go_at_call 49; refine (HF.out _ _ HX8.out).mono ?_; rintro e w9 ⟨rfl, r9, v9, o9, own9, t9⟩; have X9 := HX8.out.flush hbw r9 o9 own9 t9; have Q9 : QB w9 qb q := HX8.out.keepF HQ8.out (by decide) (by decide) (by decide) t9; clear p0 p1 p2 p3 pl; obtain ⟨p0, p1, p2, p3, pl⟩ := QB.all Q9)
                  | (go_at_call 51; refine (qoiNote X9.X rfl).mono ?_; rintro e w10 ⟨rfl, x10, t10⟩; have X10 := X9.note hbw x10 t10))
                go_roundg (N - (k + 1))
                case measure => have := HKN.out; omega
                case rel => exact ⟨k + 1, by have := HKN.out; omega, by go_num, Lib.hid ⟨_, by rw [HST2.out]; exact X10⟩⟩
              · have h62I : ¬ (Q.run : Int) + 1 = 62 := by omega
                have X8 := (HX7.out.1.run hbw (m := Q.run + 1) (z := (Q.run : Int) + 1) (by omega)).drew
                have HX8 := Lib.hid X8
                clear X8
                have HST2 : Hid ((qe0 W H).all (L.take (k + 1)) = ⟨Q.run + 1, q, Q.seen.set (qplace q) q, Q.out⟩) := Lib.hid (by rw [HST.out, if_neg h62])
                go_wp2_with fail
                go_region
                go_wp2_with (first
                  | (go_at_call 51; refine (qoiNote HX8.out.X rfl).mono ?_; rintro e w10 ⟨rfl, x10, t10⟩; have X10 := HX8.out.note hbw x10 t10))
                go_roundg (N - (k + 1))
                case measure => have := HKN.out; omega
                case rel => exact ⟨k + 1, by have := HKN.out; omega, by go_num, Lib.hid ⟨_, by rw [HST2.out]; exact X10⟩⟩
            · have hst : Q.step q = ⟨0, q, Q.seen.set (qplace q) q, flushL Q.run Q.out ++ wstep Q.last Q.seen q⟩ := by unfold QE.step; rw [if_neg hq]
              have hif := qc_if hq
              have HST := Lib.hid (HALL.out.trans hst)
              have HF := Lib.hid (fun (w' : World) v' (I : QwI w w' W H n c b off l br bo x v' Q) => qoiFlush (n := Q.run) (by omega) I.R I.O I.own I.P.B.size (show Q.out.length < 100000 by have := HQL.out; omega))
              have HX7 := Lib.hid (And.intro X7 Q7)
              clear X7 Q7 hst hC hq
              go_wp2_with fail
              go_region
              go_wp2_with (first
                | (go_at_call 49; refine (HF.out _ _ HX7.out.1.drew).mono ?_; rintro e w9 ⟨rfl, r9, v9, o9, own9, t9⟩; have X9 := HX7.out.1.drew.flush hbw r9 o9 own9 t9; have Q9 : QB w9 qb q := HX7.out.1.drew.keepF (Blk.drew HX7.out.2) (by decide) (by decide) (by decide) t9; clear p0 p1 p2 p3 pl l0 l1 l2 l3 xl; obtain ⟨p0, p1, p2, p3, pl⟩ := QB.all Q9))
              obtain ⟨o0, oz, ol⟩ := OutB.all X9.O
              have HX9 := Lib.hid (And.intro X9 Q9)
              have HLN2 : Hid ((flushL Q.run Q.out).length + (wstep Q.last Q.seen q).length < 1099511627776) := Lib.hid (by have h1 := flushL_len Q.run Q.out; have h2 := wstep_len Q.last Q.seen q; have := HQL.out; split at h1 <;> omega)
              clear X9 Q9 r9 o9 own9 t9
              refine wp_region_held_drew (S := (fun w' => w'.cell? ⟨qb, 0, none⟩ = some (.int .u8 (q.r.toNat : Int)) ∧ w'.cell? ⟨qb, 1, none⟩ = some (.int .u8 (q.g.toNat : Int)) ∧ w'.cell? ⟨qb, 2, none⟩ = some (.int .u8 (q.b.toNat : Int)) ∧ w'.cell? ⟨qb, 3, none⟩ = some (.int .u8 (q.a.toNat : Int)))) (by kernel_rfl) ⟨p0, p1, p2, p3⟩ (fun hHeld => ?_)
              refine wpAnyH_take (i := 1) (v := ?_) rfl (by kernel_rfl) (by kernel_rfl) (by kernel_rfl) (fun _ _ _ h => h) (Or.inl ⟨by kernel_rfl, ?_⟩) (by assumption) ?_
              rotate_left
              · intro w hSw; (try dsimp only at hSw); go_simp; (try with_reducible rfl)
              (try simp only [Act.put, List.setIfInBounds_toArray, List.set_cons_zero, List.set_cons_succ])
              refine wpAnyH_take (i := 2) (v := ?_) rfl (by kernel_rfl) (by kernel_rfl) (by kernel_rfl) (fun _ _ _ h => h) (Or.inl ⟨by kernel_rfl, ?_⟩) (by assumption) ?_
              rotate_left
              · intro w hSw; (try dsimp only at hSw); go_simp; (try with_reducible rfl)
              (try simp only [Act.put, List.setIfInBounds_toArray, List.set_cons_zero, List.set_cons_succ])
              refine wpAnyH_ready (rs := [0, 3]) (by kernel_rfl) (by simp) ?_
              refine AllReadyH.cons rfl (fun K hK => ?_) (AllReadyH.cons rfl (fun K hK => ?_) AllReadyH.nil)
              · go_simp
                refine hK.out _ _ hHeld (fun hHeld' => ?_)
                clear hK K hHeld
                have hHeld := hHeld'
                clear hHeld'
                (try simp only [Act.put, List.setIfInBounds_toArray, List.set_cons_zero, List.set_cons_succ])
                refine wpAnyH_ready (rs := [3]) (by kernel_rfl) (by simp) ?_
                refine AllReadyH.cons rfl (fun K hK => ?_) AllReadyH.nil
                go_simp
                refine (qoiWrite HX9.out.1.drew.X).mono ?_
                rintro e w11 ⟨⟨v11, rfl, row11⟩, b11⟩
                have X11 := HX9.out.1.drew.below b11
                have Q11 : QB w11 qb q := Blk.below (Blk.drew HX9.out.2) b11 (Blk.lt HX9.out.2)
                obtain ⟨g11, rfl, hg11, hcells⟩ := row11
                obtain ⟨k0, k1, k2, k3, kl⟩ := QB.all Q11
                refine hK.out _ _ ⟨k0, k1, k2, k3⟩ (fun hHeld' => ?_)
                clear hK K hHeld
                have hHeld := hHeld'
                clear hHeld'
                (try simp only [Act.put, List.setIfInBounds_toArray, List.set_cons_zero, List.set_cons_succ])
                refine wpAnyH_ready (rs := [4]) (by kernel_rfl) (by simp) ?_
                refine AllReadyH.cons rfl (fun K hK => ?_) AllReadyH.nil
                refine oper_append_own8 (.tmp 84) (.tmp 87) rfl w.heap.size _ _ (wstep Q.last Q.seen q) rfl X11.own g11 _ _ rfl rfl hcells HLN2.out X11.P.B.size ?_
                intro v12 w12 own12 b12 hg12
                have O13 := OutB.put X11.O X11.own hg12 own12
                have O12 : OutB w12 bo v9 := (hg12.block bo (Blk.lt X11.O) (fun e => X11.own.ne X11.O (by decide) bo e.symm rfl)).trans X11.O
                have Q12 : QB w12 qb q := (hg12.block qb (Blk.lt Q11) (fun e => X11.own.ne Q11 (by decide) qb e.symm rfl)).trans Q11
                obtain ⟨p12, n12, k12, rfl⟩ := own12.form
                obtain ⟨m0, m1, m2, m3, ml⟩ := QB.all Q12
                refine hK.out _ _ ⟨m0, m1, m2, m3⟩ (fun hHeld' => ?_)
                clear hK K hHeld
                have hHeld := hHeld'
                clear hHeld'
                (try simp only [Act.put, List.setIfInBounds_toArray, List.set_cons_zero, List.set_cons_succ])
                clear o0 oz ol
                obtain ⟨o0, oz, ol⟩ := OutB.all O12
                refine wpAnyH_ready (rs := [5]) (by kernel_rfl) (by simp) ?_
                refine AllReadyH.cons rfl (fun K hK => ?_) AllReadyH.nil
                go_simp
                have Q13 : QB (w12.setCell ⟨bo, 0, none⟩ (.slice p12 n12 k12)) qb q := Blk.far Q12 (p := ⟨bo, 0, none⟩) (Blk.ne_ Q12 O12 (by decide)) _
                obtain ⟨i0, i1, i2, i3, il2⟩ := QB.all Q13
                refine hK.out _ _ ⟨i0, i1, i2, i3⟩ (fun hHeld' => ?_)
                clear hK K hHeld
                have hHeld := hHeld'
                clear hHeld'
                (try simp only [Act.put, List.setIfInBounds_toArray, List.set_cons_zero, List.set_cons_succ])
                refine wpAnyH_done (by kernel_rfl) ?_ _
                have X13 := X11.put hbw O13.1 O13.2.1 O13.2.2
                have nbo : qb ≠ bo := Blk.ne_ Q12 O12 (by decide)
                clear p0 p1 p2 p3 pl k0 k1 k2 k3 kl
                go_wp2_with (first
                  | (go_at_call 51; refine (qoiNote X13.X rfl).mono ?_; rintro e w14 ⟨rfl, x14, t14⟩; have X14 := X13.note hbw x14 t14))
                go_roundg (N - (k + 1))
                case measure => have := HKN.out; omega
                case rel => exact ⟨k + 1, by have := HKN.out; omega, by go_num, Lib.hid ⟨_, by rw [HST.out]; exact X14⟩⟩
              · go_simp
                refine (qoiWrite HX9.out.1.drew.X).mono ?_
                rintro e w11 ⟨⟨v11, rfl, row11⟩, b11⟩
                have X11 := HX9.out.1.drew.below b11
                have Q11 : QB w11 qb q := Blk.below (Blk.drew HX9.out.2) b11 (Blk.lt HX9.out.2)
                obtain ⟨g11, rfl, hg11, hcells⟩ := row11
                obtain ⟨k0, k1, k2, k3, kl⟩ := QB.all Q11
                refine hK.out _ _ ⟨k0, k1, k2, k3⟩ (fun hHeld' => ?_)
                clear hK K hHeld
                have hHeld := hHeld'
                clear hHeld'
                (try simp only [Act.put, List.setIfInBounds_toArray, List.set_cons_zero, List.set_cons_succ])
                have o1 : w11.cell? ⟨bo, 0, none⟩ = some v9 := Blk.cell X11.O 0
                refine wpAnyH_ready (rs := [0]) (by kernel_rfl) (by simp) ?_
                refine AllReadyH.cons rfl (fun K hK => ?_) AllReadyH.nil
                go_simp
                refine hK.out _ _ hHeld (fun hHeld' => ?_)
                clear hK K hHeld
                have hHeld := hHeld'
                clear hHeld'
                (try simp only [Act.put, List.setIfInBounds_toArray, List.set_cons_zero, List.set_cons_succ])
                refine wpAnyH_ready (rs := [4]) (by kernel_rfl) (by simp) ?_
                refine AllReadyH.cons rfl (fun K hK => ?_) AllReadyH.nil
                refine oper_append_own8 (.tmp 84) (.tmp 87) rfl w.heap.size _ _ (wstep Q.last Q.seen q) rfl X11.own g11 _ _ rfl rfl hcells HLN2.out X11.P.B.size ?_
                intro v12 w12 own12 b12 hg12
                have O13 := OutB.put X11.O X11.own hg12 own12
                have O12 : OutB w12 bo v9 := (hg12.block bo (Blk.lt X11.O) (fun e => X11.own.ne X11.O (by decide) bo e.symm rfl)).trans X11.O
                have Q12 : QB w12 qb q := (hg12.block qb (Blk.lt Q11) (fun e => X11.own.ne Q11 (by decide) qb e.symm rfl)).trans Q11
                obtain ⟨p12, n12, k12, rfl⟩ := own12.form
                obtain ⟨m0, m1, m2, m3, ml⟩ := QB.all Q12
                refine hK.out _ _ ⟨m0, m1, m2, m3⟩ (fun hHeld' => ?_)
                clear hK K hHeld
                have hHeld := hHeld'
                clear hHeld'
                (try simp only [Act.put, List.setIfInBounds_toArray, List.set_cons_zero, List.set_cons_succ])
                clear o0 oz ol
                obtain ⟨o0, oz, ol⟩ := OutB.all O12
                refine wpAnyH_ready (rs := [5]) (by kernel_rfl) (by simp) ?_
                refine AllReadyH.cons rfl (fun K hK => ?_) AllReadyH.nil
                go_simp
                have Q13 : QB (w12.setCell ⟨bo, 0, none⟩ (.slice p12 n12 k12)) qb q := Blk.far Q12 (p := ⟨bo, 0, none⟩) (Blk.ne_ Q12 O12 (by decide)) _
                obtain ⟨i0, i1, i2, i3, il2⟩ := QB.all Q13
                refine hK.out _ _ ⟨i0, i1, i2, i3⟩ (fun hHeld' => ?_)
                clear hK K hHeld
                have hHeld := hHeld'
                clear hHeld'
                (try simp only [Act.put, List.setIfInBounds_toArray, List.set_cons_zero, List.set_cons_succ])
                refine wpAnyH_done (by kernel_rfl) ?_ _
                have X13 := X11.put hbw O13.1 O13.2.1 O13.2.2
                have nbo : qb ≠ bo := Blk.ne_ Q12 O12 (by decide)
                clear p0 p1 p2 p3 pl k0 k1 k2 k3 kl
                go_wp2_with (first
                  | (go_at_call 51; refine (qoiNote X13.X rfl).mono ?_; rintro e w14 ⟨rfl, x14, t14⟩; have X14 := X13.note hbw x14 t14))
                go_roundg (N - (k + 1))
                case measure => have := HKN.out; omega
                case rel => exact ⟨k + 1, by have := HKN.out; omega, by go_num, Lib.hid ⟨_, by rw [HST.out]; exact X14⟩⟩
        · obtain rfl : k = N := by omega
          have hltI : ¬ (k : Int) < (k : Int) := by omega
          have hLk : L.take k = L := List.take_of_length_le (by rw [HL.out.2.2.1]; exact Nat.le_refl _)
          rw [hLk] at I hqok hqlen
          have HX := Lib.hid I
          have HQL : Hid (((qe0 W H).all L).out.length ≤ 14 + 6 * 3600) := Lib.hid (by have h2 : (qe0 W H).out.length = 14 := rfl; have := HL.out.2.2.1; omega)
          have hrun := hqok.run
          have HFILE : Hid (flushL ((qe0 W H).all L).run ((qe0 W H).all L).out ++ qend = qoiFile W H L) := Lib.hid rfl
          generalize (qe0 W H).all L = Q at HX HQL hrun HFILE
          have HF := Lib.hid (fun (w' : World) v' (I : QwI w w' W H n c b off l br bo x v' Q) => qoiFlush (n := Q.run) (by omega) I.R I.O I.own I.P.B.size (show Q.out.length < 100000 by have := HQL.out; omega))
          have HLN2 : Hid ((flushL Q.run Q.out).length + qend.length < 1099511627776) := Lib.hid (by have h1 := flushL_len Q.run Q.out; have h2 : qend.length = 8 := rfl; have := HQL.out; split at h1 <;> omega)
          clear I hqok hqlen hk hLk
          go_wp2_with (first
            | (go_at_call 49; refine (HF.out _ _ HX.out).mono ?_; rintro e w9 ⟨rfl, r9, v9, o9, own9, t9⟩; have X9 := HX.out.flush hbw r9 o9 own9 t9; obtain ⟨o0, oz, ol⟩ := OutB.all X9.O)
            | (at_builtin; refine wpList_append_row rfl (.tmp 95) (.tmp 96) rfl w.heap.size _ _ qend rfl (X9.own.alloc _) w9.heap.size 8 8 rfl rfl (cells_end w9) HLN2.out (by have := X9.P.B.size; simp; omega) ?_; intro v10 w10 own10 b10 hg10; have B10 : Below w.heap.size w w10 := (X9.P.next ((Below.refl _ _).alloc (Nat.le_refl _) (.cells #[.int .u8 0, .int .u8 0, .int .u8 0, .int .u8 0, .int .u8 0, .int .u8 0, .int .u8 0, .int .u8 1] 5))).B.trans b10)
            | (refine wpList_convert_owned rfl (.tmp 97) 9 Tryz.underlying9 rfl _ _ _ rfl own10 ?_))
          go_ret2
          exact ⟨ret2 (vstr (by rw [← HFILE.out])) rfl, B10⟩
end Go.Proofs.YtojobfnbakiicaaGreat
namespace Go.Proofs.YtojobfnbakiicaaGreat
open Go.RowKit
set_option linter.unusedVariables false
set_option linter.unusedSimpArgs false

theorem qoiIs {s : ByteArray} {b : Bool} (hb : decide (4 ≤ s.size ∧ s.extract 0 4 = ⟨#[113, 111, 105, 102]⟩) = b) (w : World) : Calls Tryz.prog 23 #[.string s] w fun e w' => e = .returned (.bool b) ∧ w = w' := by
  have H := Lib.hid (hasPrefix (s := s) (p := ⟨#[113, 111, 105, 102]⟩) hb w (by decide))
  clear hb
  go_enter Tryz.func23, Tryz.ntmps23
  go_wp2_with (go_at_call 69; refine H.out.mono ?_; rintro e w' ⟨rfl, rfl⟩)
  go_ret
  exact ⟨rfl, rfl⟩
def qoiOne : ByteArray := ⟨#[113, 111, 105, 102, 0, 0, 0, 1, 0, 0, 0, 1, 4, 0, 192, 0, 0, 0, 0, 0, 0, 0, 1]⟩
theorem qoiOne_is : strOf (qoiFile 1 1 [q255]) = qoiOne := by
  have e : qoiFile 1 1 [q255] = [113, 111, 105, 102, 0, 0, 0, 1, 0, 0, 0, 1, 4, 0, 192, 0, 0, 0, 0, 0, 0, 0, 1] := by decide
  rw [e]
  rfl
theorem qoiWrite_one (w : World) : Calls Tryz.prog 13 #[.agg #[.int .i64 1, .int .i64 1, .slice (some ⟨w.heap.size, 0, none⟩) 4 4]] (w.alloc (.cells #[.int .u8 0, .int .u8 0, .int .u8 0, .int .u8 255] 5)) fun e w' => e = .returned (.tuple #[.string qoiOne, .int .i64 0]) ∧ Below w.heap.size w w' := by
  have h := qoiWrite_yes (w := w.alloc (.cells #[.int .u8 0, .int .u8 0, .int .u8 0, .int .u8 255] 5)) (W := 1) (H := 1) (N := 1) (n := 4) (c := 4) (b := w.heap.size) (off := 0) (l := [0, 0, 0, 255]) (L := [q255]) (by decide) (by decide) rfl ⟨by decide, by decide, by decide⟩ rfl rfl rfl (Nat.le_refl _) (fun j hj => by
    rw [Nat.zero_add]
    exact cells_new w [0, 0, 0, 255] _ rfl j _ (List.getElem?_eq_getElem hj)) (by simp)
  refine h.mono ?_
  rintro e w' ⟨rfl, b⟩
  exact ⟨by rw [qoiOne_is], below_next ((Below.refl _ _).alloc (Nat.le_refl _) _) b⟩
set_option maxRecDepth 100000 in
set_option maxHeartbeats 2000000 in
theorem awake26_any (w : World) : Calls Tryz.prog 12 #[] w fun e w' => e = .returned (.bool true) ∧ Below w.heap.size w w' := by
  have HW := Lib.hid (qoiWrite_one w)
  have H1 := Lib.hid (fun w => qoiIs (s := qoiOne) (b := true) (by decide) w)
  have H2 := Lib.hid (fun w => qoiIs (s := ⟨#[113, 111, 105]⟩) (b := false) (by decide) w)
  have hz : qoiOne.size = 23 := rfl
  have hi : ∀ w : World, (Instr.index 9 (.string qoiOne) (.int .i64 14)).run Tryz.prog w = .ok (.int .u8 192) w := fun _ => by kernel_rfl
  generalize qoiOne = Q at HW H1 hz hi
  go_enter Tryz.func12, Tryz.ntmps12
  go_wp2_with (first
    | (go_at_call 13; refine HW.out.mono ?_; rintro e w1 ⟨rfl, b1⟩)
    | (go_at_call_of 23 (Value.string Q); refine (H1.out _).mono ?_; rintro e w2 ⟨rfl, rfl⟩)
    | (go_at_call 23; refine (H2.out _).mono ?_; rintro e w2 ⟨rfl, rfl⟩))
  go_ret
  exact ⟨rfl, b1⟩
end Go.Proofs.YtojobfnbakiicaaGreat
