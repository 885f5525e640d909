/- A raster is made, told with all its ways at once. pnmtext.Read: all pixels. -/
import Derived.Test.YthljhebbblhakaaGreatDoorEPnmW
import Derived.Test.YthljhebbblhakaaGreatDoorEFfRef3
import Derived.Test.YthljhebbblhakaaGreatDoorEPnmDocs
import Derived.Test.YthljhebbblhakaaGreatDoorEPnmHd
namespace Go.Proofs.YthljhebbblhakaaGreatDoor
open Go.RowKit
set_option linter.unusedVariables false

/-- the ways of a new raster -/
def NewPost (w w' : World) (g W H a : Nat) (y : Led) (e : Ending) : Prop :=
  ∃ y2, LedAt w' g y2 ∧ y2.Ok ∧ Turn [g] w w' ∧
    ((e = .returned (.tuple #[.pointer none, .int .i64 4]) ∧ y2.reason ≠ 0 ∧ ∀ k, (Dec.sides W H a (.take (4 * (W * H)) a k)).run y = (y2, .bad 4 a)) ∨
     (∃ r b d : Nat, e = .returned (.tuple #[.pointer (some ⟨r, 0, none⟩), .int .i64 0]) ∧ w.heap.size ≤ r ∧ w.heap.size ≤ b ∧ w.heap.size ≤ d ∧ RasAt w' r g b (W : Int) (H : Int) true ∧ BufAt w' b g d (List.replicate (4 * (W * H)) 0) ∧ y2.reason = 0 ∧ y2.bytes = y.bytes + ((4 * (W * H) : Nat) : Int) ∧ ∀ k, (Dec.sides W H a (.take (4 * (W * H)) a k)).run y = k.run y2))
theorem rasNew_ways {w : World} {g W H : Nat} {y : Led} (a : Nat) (h1 : 1 ≤ W) (h2 : W ≤ 16384) (h3 : 1 ≤ H) (h4 : H ≤ 16384) (l : LedAt w g y) (ok : y.Ok) (hr : y.reason = 0) :
    Calls Tryz.prog 35 #[.pointer (some ⟨g, 0, none⟩), .int .i64 (W : Int), .int .i64 (H : Int)] w fun e w' => NewPost w w' g W H a y e := by
  have hN1 : W * H ≤ 16384 * 16384 := Nat.mul_le_mul h2 h4
  have hs : sideHyp (W : Int) (H : Int) := ⟨⟨by omega, by omega⟩, ⟨by omega, by omega⟩⟩
  obtain ⟨y2, v2, hw2⟩ : ∃ y2 v2, y.sides W H = (y2, v2) := ⟨_, _, rfl⟩
  have y2ok : y2.Ok := by have := ok.sides W H; rw [hw2] at this; exact this
  cases v2 with
  | false =>
    obtain ⟨n1, n2⟩ := led_sides_no (x := y) (a := W) (b := H) (by rw [hw2]) hr
    rw [hw2] at n1
    refine (rasNew_sides hs l ok hw2).mono ?_
    rintro e w' ⟨rfl, l', t'⟩
    exact ⟨y2, l', y2ok, t', .inl ⟨rfl, n1, fun k => run_sides_no hw2⟩⟩
  | true =>
    obtain ⟨n1, _⟩ := led_sides_yes (x := y) (a := W) (b := H) (by rw [hw2])
    rw [hw2] at n1
    have n1' : y2 = y := n1
    subst n1'
    obtain ⟨y3, v3, hw3⟩ : ∃ y3 v3, y2.take ((4 * (W * H) : Nat) : Int) = (y3, v3) := ⟨_, _, rfl⟩
    have y3ok : y3.Ok := by have := ok.take ((4 * (W * H) : Nat) : Int); rw [hw3] at this; exact this
    cases v3 with
    | false =>
      obtain ⟨m1, m2⟩ := led_take_no (x := y2) (n := ((4 * (W * H) : Nat) : Int)) (by rw [hw3]) hr
      rw [hw3] at m1
      refine (rasNew_take (y := W * H) (z := 4 * (W * H)) hs rfl (by omega) (by omega) l ok hw2 hw3).mono ?_
      rintro e w' ⟨rfl, l', t'⟩
      exact ⟨y3, l', y3ok, t', .inl ⟨rfl, m1, fun k => by rw [run_sides_yes hw2, run_take_no hw3]⟩⟩
    | true =>
      obtain ⟨_, m1, m2, _⟩ := led_take_yes (x := y2) (n := ((4 * (W * H) : Nat) : Int)) (by rw [hw3])
      rw [hw3] at m1 m2
      refine (rasNew_yes (y := W * H) (z := 4 * (W * H)) hs rfl (by omega) (by omega) l ok hw2 hw3).mono ?_
      rintro e w' ⟨r, b, d, rfl, hr', hb', hd', R', B', l', t'⟩
      exact ⟨y3, l', y3ok, t', .inr ⟨r, b, d, rfl, hr', hb', hd', R', B', m1, m2, fun k => by rw [run_sides_yes hw2, run_take_yes hw3]⟩⟩
end Go.Proofs.YthljhebbblhakaaGreatDoor
namespace Go.Proofs.YthljhebbblhakaaGreatDoor
open Go.RowKit
set_option linter.unusedVariables false
set_option linter.unusedSimpArgs false

theorem PixPost.to {w w' : World} {p g x q : Nat} {s : ByteArray} {h : HeadR} {av : List Nat} {y : Led} {e : Ending} {D D' : Nat → (Qc × Nat → Dec) → Dec} (hp : PixPost w w' p g x q s h av y e D) (hD : ∀ z k, D' z k = D z k) : PixPost w w' p g x q s h av y e D' := by
  obtain ⟨y', yb, hor⟩ := hp
  refine ⟨y', yb, hor.imp ?_ ?_⟩
  · rintro ⟨kk, aa, c0, c1, c2, c3, h1, h2, h3, h4, h5⟩
    exact ⟨kk, aa, c0, c1, c2, c3, h1, h2, h3, h4, fun z k => by rw [hD]; exact h5 z k⟩
  · rintro ⟨c, a', h1, h2, h3, h4, h5⟩
    exact ⟨c, a', h1, h2, h3, h4, fun z k => by rw [hD]; exact h5 z k⟩
/-- what a reading of all pixels leaves -/
def BodyPost (w w' : World) (p g r b d : Nat) (s : ByteArray) (h : HeadR) (y : Led) (e : Ending) : Prop :=
  ∃ (y' : Led) (l' : List UInt8), LedAt w' g y' ∧ y'.Ok ∧ y'.bytes = y.bytes ∧ Turn [p, g, d] w w' ∧ RasAt w' r g b (h.W : Int) (h.H : Int) true ∧ BufAt w' b g d l' ∧ l'.length = 4 * (h.W * h.H) ∧
    ((∃ kk aa : Nat, kk ≠ 0 ∧ e = .returned (.agg #[.int .i64 (kk : Int), .int .i64 3, .int .i64 (aa : Int)]) ∧ ∀ z, (bodyD s h z).run y = ((y'.give (z : Int)).1, .bad kk aa)) ∨
     (e = .returned (.agg #[.int .i64 0, .int .i64 0, .int .i64 0]) ∧ y'.reason = 0 ∧ ∃ L : List Qc, L.length = h.W * h.H ∧ l' = flat L ∧ ∀ z, (bodyD s h z).run y = (y', .img h.W h.H (flat L))))
structure TRI (w0 w : World) (p g x q r b d f : Nat) (s : ByteArray) (h : HeadR) (N a : Nat) (L : List Qc) (y : Led) : Prop where
  J : TXI w w p g x q s h [d] a y
  R : RasAt w r g b (h.W : Int) (h.H : Int) true
  D : BufAt w b g d (pixL L (4 * N))
  F : FB w f 0 0 0
  U : Blk w w0.heap.size 61 #[.int .i64 (h.K : Int), .int .i64 (h.W : Int), .int .i64 (h.H : Int), .int .i64 (h.M : Int), .int .i64 (h.At : Int)]
  T : Turn [p, g, q, d] w0 w
section
variable {w0 w w' : World} {p g x q r b d f : Nat} {s : ByteArray} {h : HeadR} {N a a' : Nat} {L L' : List Qc} {y y' : Led}
theorem TRI.pix (I : TRI w0 w p g x q r b d f s h N a L y) (J' : TXI w w' p g x q s h [d] a' y') : TRI w0 w' p g x q r b d f s h N a' L y' := by
  obtain ⟨cq, hq⟩ := I.J.Q.blk
  have T' := J'.T
  refine ⟨J'.from_, Blk.turn I.R T' ?_, I.D.turn T' ?_ ?_, FB.turn I.F T' ?_, Blk.turn I.U T' ?_, I.T.trans (T'.mono (by simp))⟩
  all_goals simp only [List.mem_cons, List.not_mem_nil, or_false, not_or]
  · exact ⟨Blk.ne_ I.R I.J.S (by decide), Blk.ne_ I.R I.J.G (by decide), Blk.ne_ I.R hq (by decide)⟩
  · exact ⟨Blk.ne_ I.D.blk I.J.S (by decide), Blk.ne_ I.D.blk I.J.G (by decide), Blk.ne_ I.D.blk hq (by decide)⟩
  · exact ⟨Blk.ne_ I.D.row I.J.S (by decide), Blk.ne_ I.D.row I.J.G (by decide), Blk.ne_ I.D.row hq (by decide)⟩
  · exact ⟨Blk.ne_ I.F I.J.S (by decide), Blk.ne_ I.F I.J.G (by decide), Blk.ne_ I.F hq (by decide)⟩
  · exact ⟨Blk.ne_ I.U I.J.S (by decide), Blk.ne_ I.U I.J.G (by decide), Blk.ne_ I.U hq (by decide)⟩
theorem TRI.below (I : TRI w0 w p g x q r b d f s h N a L y) (k : Below w.heap.size w w') : TRI w0 w' p g x q r b d f s h N a L y := I.pix (I.J.below k)
theorem TRI.alloc (I : TRI w0 w p g x q r b d f s h N a L y) (o : Obj) : TRI w0 (w.alloc o) p g x q r b d f s h N a L y := I.below ((Below.refl _ _).alloc (Nat.le_refl _) o)
theorem TRI.set (I : TRI w0 w p g x q r b d f s h N a L y) (k : Turn [g, d] w w') (B' : BufAt w' b g d (pixL L' (4 * N))) (G' : LedAt w' g y') (ok' : y'.Ok) : TRI w0 w' p g x q r b d f s h N a L' y' := by
  obtain ⟨cq, hq⟩ := I.J.Q.blk
  have sz := k.size
  refine ⟨⟨I.J.S.turn k ?_, G', Blk.turn I.J.X k ?_, I.J.Q.turn k ?_ ?_, Turn.refl _ _, fun i hi => Nat.lt_of_lt_of_le (I.J.av i hi) sz, ok'⟩, Blk.turn I.R k ?_, B', FB.turn I.F k ?_, Blk.turn I.U k ?_, I.T.trans (k.mono (by simp))⟩
  · simp only [List.mem_cons, List.not_mem_nil, or_false, not_or]; exact ⟨Blk.ne_ I.J.S I.J.G (by decide), Blk.ne_ I.J.S I.D.row (by decide)⟩
  · simp only [List.mem_cons, List.not_mem_nil, or_false, not_or]; exact ⟨Blk.ne_ I.J.X I.J.G (by decide), Blk.ne_ I.J.X I.D.row (by decide)⟩
  · simp only [List.mem_cons, List.not_mem_nil, or_false, not_or]; exact ⟨Blk.ne_ hq I.J.G (by decide), Blk.ne_ hq I.D.row (by decide)⟩
  · intro i hi
    simp only [List.mem_cons, List.not_mem_nil, or_false] at hi
    rcases hi with rfl | rfl
    · exact .inr ⟨_, _, I.J.G, by decide⟩
    · exact .inl (by simp)
  · simp only [List.mem_cons, List.not_mem_nil, or_false, not_or]; exact ⟨Blk.ne_ I.R I.J.G (by decide), Blk.ne_ I.R I.D.row (by decide)⟩
  · simp only [List.mem_cons, List.not_mem_nil, or_false, not_or]; exact ⟨Blk.ne_ I.F I.J.G (by decide), Blk.ne_ I.F I.D.row (by decide)⟩
  · simp only [List.mem_cons, List.not_mem_nil, or_false, not_or]; exact ⟨Blk.ne_ I.U I.J.G (by decide), Blk.ne_ I.U I.D.row (by decide)⟩
/-- the end: what the caller sees -/
theorem TRI.fin {u v e : Value} (I : TRI w0 w p g x q r b d f s h N a L y) (hq : w0.heap.size ≤ q) (hf : w0.heap.size ≤ f) : LedAt (st3 w f u v e) g y ∧ Turn [p, g, d] w0 (st3 w f u v e) ∧ RasAt (st3 w f u v e) r g b (h.W : Int) (h.H : Int) true ∧ BufAt (st3 w f u v e) b g d (pixL L (4 * N)) := by
  refine ⟨Blk.st3 I.J.G (Blk.ne_ I.J.G I.F (by decide)), Turn.st3 ⟨I.T.os, I.T.tape, I.T.output, I.T.size, fun i hi hn => I.T.block i hi ?_⟩ (.inr hf), Blk.st3 I.R (Blk.ne_ I.R I.F (by decide)), ⟨Blk.st3 I.D.blk (Blk.ne_ I.D.blk I.F (by decide)), Blk.st3 I.D.row (Blk.ne_ I.D.row I.F (by decide))⟩⟩
  simp only [List.mem_cons, List.not_mem_nil, or_false, not_or] at hn ⊢
  exact ⟨hn.1, hn.2.1, by omega, hn.2.2⟩
end
theorem pos_lt {n Y X W H N : Nat} (h : n = Y * W + X) (hY : Y < H) (hX : X < W) (hN : W * H = N) : n + 1 ≤ N := by
  have h2 := Nat.mul_le_mul_right W (show Y + 1 ≤ H by omega)
  rw [Nat.add_mul, Nat.one_mul, Nat.mul_comm H, hN] at h2
  omega
end Go.Proofs.YthljhebbblhakaaGreatDoor
