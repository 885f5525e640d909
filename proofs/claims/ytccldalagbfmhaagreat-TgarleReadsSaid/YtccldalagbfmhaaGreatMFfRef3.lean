/- The document's Decode of a farbfeld file. -/
import Derived.Test.YtccldalagbfmhaaGreatMTgaLaw
import Derived.Test.YtccldalagbfmhaaGreatMCols
import Derived.Test.YtccldalagbfmhaaGreatMRasBytes
import Derived.Test.YtccldalagbfmhaaGreatMScale
namespace Go.Proofs.YtccldalagbfmhaaGreat
open Go.RowKit
set_option linter.unusedVariables false
set_option linter.unusedSimpArgs false

/-- what the document tells of a file -/
def RefPost (d : DRes) (w w' : World) (e : Ending) : Prop :=
  Below w.heap.size w w' ∧ match d with
    | .bad k a => e = .returned (.agg #[.int .i64 0, .int .i64 0, .slice none 0 0, .int .i64 (k : Int), .int .i64 (a : Int)])
    | .img W H l => ∃ v L, e = .returned (.agg #[.int .i64 (W : Int), .int .i64 (H : Int), v, .int .i64 0, .int .i64 0]) ∧ OwnsQ w' w.heap.size v L ∧ flat L = l ∧ L.length = W * H
/-- what holds at each pixel -/
structure RefP (w0 w : World) (b2 b4 W H k : Nat) (v : Value) (L : List Qc) (s : ByteArray) : Prop where
  A : RI w b2 0 0 (.slice none 0 0) 0 0
  X : RI w b4 (W : Int) (H : Int) v 0 0
  O : OwnsQ w w0.heap.size v L
  F : flat L = ffBytes s k
  N : L.length = k
  B : Below w0.heap.size w0 w
theorem OwnsQ.st5RI {w : World} {base b : Nat} {v v' u0 u1 u2 u3 u4 : Value} {L : List Qc} {W H k a : Int} (o : OwnsQ w base v L) (h : RI w b W H v' k a) : OwnsQ (st5 w b u0 u1 u2 u3 u4) base v L :=
  o.turn (S := [b]) (((((Turn.refl _ _).set_ 0 u0 (by simp)).set_ 1 u1 (by simp)).set_ 2 u2 (by simp)).set_ 3 u3 (by simp) |>.set_ 4 u4 (by simp)) (fun j hj => by rw [List.mem_singleton] at hj; subst hj; exact ⟨_, _, h, by decide⟩)
theorem RefP.below {w0 w w' : World} {b2 b4 W H k : Nat} {v : Value} {L : List Qc} {s : ByteArray} (P : RefP w0 w b2 b4 W H k v L s) (b : Below w.heap.size w w') : RefP w0 w' b2 b4 W H k v L s :=
  ⟨Blk.below P.A b (Blk.lt P.A), Blk.below P.X b (Blk.lt P.X), P.O.below b, P.F, P.N, below_next P.B b⟩
end Go.Proofs.YtccldalagbfmhaaGreat
