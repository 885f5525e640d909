/- pnmtext.Read: all pixels. -/
import Derived.Test.YtgmgcfjllijhgaaGreatJPnmB
import Derived.Test.YtgmgcfjllijhgaaGreatJRasWays
import Derived.Test.YtgmgcfjllijhgaaGreatJPnmHd
namespace Go.Proofs.YtgmgcfjllijhgaaGreat
open Go.RowKit
set_option linter.unusedVariables false
set_option linter.unusedSimpArgs false

theorem PixPost.to {w w' : World} {p g x q : Nat} {s : ByteArray} {h : HeadR} {av : List Nat} {y : Led} {e : Ending} {D D' : Nat → (Qc × Nat → Dec) → Dec} (hp : PixPost w w' p g x q s h av y e D) (hD : ∀ z k, D' z k = D z k) : PixPost w w' p g x q s h av y e D' := by
  obtain ⟨y', yb, hor⟩ := hp
  refine ⟨y', yb, hor.imp ?_ ?_⟩
  · rintro ⟨kk, aa, c0, c1, c2, c3, h1, h2, h3, h4, h5⟩
    exact ⟨kk, aa, c0, c1, c2, c3, h1, h2, h3, h4, fun z k => by rw [hD]; exact h5 z k⟩
  · rintro ⟨c, a', h1, h2, h3, h4, h5⟩
    exact ⟨c, a', h1, h2, h3, h4, fun z k => by rw [hD]; exact h5 z k⟩
/-- what a reading of all pixels leaves -/
def BodyPost (w w' : World) (p g r b d : Nat) (s : ByteArray) (h : HeadR) (y : Led) (e : Ending) : Prop :=
  ∃ (y' : Led) (l' : List UInt8), LedAt w' g y' ∧ y'.Ok ∧ y'.bytes = y.bytes ∧ Turn [p, g, d] w w' ∧ RasAt w' r g b (h.W : Int) (h.H : Int) true ∧ BufAt w' b g d l' ∧ l'.length = 4 * (h.W * h.H) ∧
    ((∃ kk aa : Nat, kk ≠ 0 ∧ e = .returned (.agg #[.int .i64 (kk : Int), .int .i64 3, .int .i64 (aa : Int)]) ∧ ∀ z, (bodyD s h z).run y = ((y'.give (z : Int)).1, .bad kk aa)) ∨
     (e = .returned (.agg #[.int .i64 0, .int .i64 0, .int .i64 0]) ∧ y'.reason = 0 ∧ ∃ L : List Qc, L.length = h.W * h.H ∧ l' = flat L ∧ ∀ z, (bodyD s h z).run y = (y', .img h.W h.H (flat L))))
structure TRI (w0 w : World) (p g x q r b d f : Nat) (s : ByteArray) (h : HeadR) (N a : Nat) (L : List Qc) (y : Led) : Prop where
  J : TXI w w p g x q s h [d] a y
  R : RasAt w r g b (h.W : Int) (h.H : Int) true
  D : BufAt w b g d (pixL L (4 * N))
  F : FB w f 0 0 0
  U : Blk w w0.heap.size 69 #[.int .i64 (h.K : Int), .int .i64 (h.W : Int), .int .i64 (h.H : Int), .int .i64 (h.M : Int), .int .i64 (h.At : Int)]
  T : Turn [p, g, q, d] w0 w
section
variable {w0 w w' : World} {p g x q r b d f : Nat} {s : ByteArray} {h : HeadR} {N a a' : Nat} {L L' : List Qc} {y y' : Led}
theorem TRI.pix (I : TRI w0 w p g x q r b d f s h N a L y) (J' : TXI w w' p g x q s h [d] a' y') : TRI w0 w' p g x q r b d f s h N a' L y' := by
  obtain ⟨cq, hq⟩ := I.J.Q.blk
  have T' := J'.T
  refine ⟨J'.from_, Blk.turn I.R T' ?_, I.D.turn T' ?_ ?_, FB.turn I.F T' ?_, Blk.turn I.U T' ?_, I.T.trans (T'.mono (by simp))⟩
  all_goals simp only [List.mem_cons, List.not_mem_nil, or_false, not_or]
  · exact ⟨Blk.ne_ I.R I.J.S (by decide), Blk.ne_ I.R I.J.G (by decide), Blk.ne_ I.R hq (by decide)⟩
  · exact ⟨Blk.ne_ I.D.blk I.J.S (by decide), Blk.ne_ I.D.blk I.J.G (by decide), Blk.ne_ I.D.blk hq (by decide)⟩
  · exact ⟨Blk.ne_ I.D.row I.J.S (by decide), Blk.ne_ I.D.row I.J.G (by decide), Blk.ne_ I.D.row hq (by decide)⟩
  · exact ⟨Blk.ne_ I.F I.J.S (by decide), Blk.ne_ I.F I.J.G (by decide), Blk.ne_ I.F hq (by decide)⟩
  · exact ⟨Blk.ne_ I.U I.J.S (by decide), Blk.ne_ I.U I.J.G (by decide), Blk.ne_ I.U hq (by decide)⟩
theorem TRI.below (I : TRI w0 w p g x q r b d f s h N a L y) (k : Below w.heap.size w w') : TRI w0 w' p g x q r b d f s h N a L y := I.pix (I.J.below k)
theorem TRI.alloc (I : TRI w0 w p g x q r b d f s h N a L y) (o : Obj) : TRI w0 (w.alloc o) p g x q r b d f s h N a L y := I.below ((Below.refl _ _).alloc (Nat.le_refl _) o)
theorem TRI.set (I : TRI w0 w p g x q r b d f s h N a L y) (k : Turn [g, d] w w') (B' : BufAt w' b g d (pixL L' (4 * N))) (G' : LedAt w' g y') (ok' : y'.Ok) : TRI w0 w' p g x q r b d f s h N a L' y' := by
  obtain ⟨cq, hq⟩ := I.J.Q.blk
  have sz := k.size
  refine ⟨⟨I.J.S.turn k ?_, G', Blk.turn I.J.X k ?_, I.J.Q.turn k ?_ ?_, Turn.refl _ _, fun i hi => Nat.lt_of_lt_of_le (I.J.av i hi) sz, ok'⟩, Blk.turn I.R k ?_, B', FB.turn I.F k ?_, Blk.turn I.U k ?_, I.T.trans (k.mono (by simp))⟩
  · simp only [List.mem_cons, List.not_mem_nil, or_false, not_or]; exact ⟨Blk.ne_ I.J.S I.J.G (by decide), Blk.ne_ I.J.S I.D.row (by decide)⟩
  · simp only [List.mem_cons, List.not_mem_nil, or_false, not_or]; exact ⟨Blk.ne_ I.J.X I.J.G (by decide), Blk.ne_ I.J.X I.D.row (by decide)⟩
  · simp only [List.mem_cons, List.not_mem_nil, or_false, not_or]; exact ⟨Blk.ne_ hq I.J.G (by decide), Blk.ne_ hq I.D.row (by decide)⟩
  · intro i hi
    simp only [List.mem_cons, List.not_mem_nil, or_false] at hi
    rcases hi with rfl | rfl
    · exact .inr ⟨_, _, I.J.G, by decide⟩
    · exact .inl (by simp)
  · simp only [List.mem_cons, List.not_mem_nil, or_false, not_or]; exact ⟨Blk.ne_ I.R I.J.G (by decide), Blk.ne_ I.R I.D.row (by decide)⟩
  · simp only [List.mem_cons, List.not_mem_nil, or_false, not_or]; exact ⟨Blk.ne_ I.F I.J.G (by decide), Blk.ne_ I.F I.D.row (by decide)⟩
  · simp only [List.mem_cons, List.not_mem_nil, or_false, not_or]; exact ⟨Blk.ne_ I.U I.J.G (by decide), Blk.ne_ I.U I.D.row (by decide)⟩
/-- the end: what the caller sees -/
theorem TRI.fin {u v e : Value} (I : TRI w0 w p g x q r b d f s h N a L y) (hq : w0.heap.size ≤ q) (hf : w0.heap.size ≤ f) : LedAt (st3 w f u v e) g y ∧ Turn [p, g, d] w0 (st3 w f u v e) ∧ RasAt (st3 w f u v e) r g b (h.W : Int) (h.H : Int) true ∧ BufAt (st3 w f u v e) b g d (pixL L (4 * N)) := by
  refine ⟨Blk.st3 I.J.G (Blk.ne_ I.J.G I.F (by decide)), Turn.st3 ⟨I.T.os, I.T.tape, I.T.output, I.T.size, fun i hi hn => I.T.block i hi ?_⟩ (.inr hf), Blk.st3 I.R (Blk.ne_ I.R I.F (by decide)), ⟨Blk.st3 I.D.blk (Blk.ne_ I.D.blk I.F (by decide)), Blk.st3 I.D.row (Blk.ne_ I.D.row I.F (by decide))⟩⟩
  simp only [List.mem_cons, List.not_mem_nil, or_false, not_or] at hn ⊢
  exact ⟨hn.1, hn.2.1, by omega, hn.2.2⟩
end
theorem pos_lt {n Y X W H N : Nat} (h : n = Y * W + X) (hY : Y < H) (hX : X < W) (hN : W * H = N) : n + 1 ≤ N := by
  have h2 := Nat.mul_le_mul_right W (show Y + 1 ≤ H by omega)
  rw [Nat.add_mul, Nat.one_mul, Nat.mul_comm H, hN] at h2
  omega
end Go.Proofs.YtgmgcfjllijhgaaGreat
