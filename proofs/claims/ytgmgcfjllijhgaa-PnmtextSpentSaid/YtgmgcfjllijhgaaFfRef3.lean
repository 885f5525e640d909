/- The document's Decode of a farbfeld file. -/
import Derived.Test.YtgmgcfjllijhgaaFfRef
import Derived.Test.YtgmgcfjllijhgaaFfD
import Derived.Test.YtgmgcfjllijhgaaCols
import Derived.Test.YtgmgcfjllijhgaaRasBytes
import Derived.Test.YtgmgcfjllijhgaaScale
namespace Go.Proofs.Ytgmgcfjllijhgaa
open Go.RowKit
set_option linter.unusedVariables false
set_option linter.unusedSimpArgs false

/-- what the document tells of a file -/
def RefPost (d : DRes) (w w' : World) (e : Ending) : Prop :=
  Below w.heap.size w w' ∧ match d with
    | .bad k a => e = .returned (.agg #[.int .i64 0, .int .i64 0, .slice none 0 0, .int .i64 (k : Int), .int .i64 (a : Int)])
    | .img W H l => ∃ v L, e = .returned (.agg #[.int .i64 (W : Int), .int .i64 (H : Int), v, .int .i64 0, .int .i64 0]) ∧ OwnsQ w' w.heap.size v L ∧ flat L = l ∧ L.length = W * H
theorem ffPix_told_no {s : ByteArray} {W H z n k : Nat} (h : ¬ 16 + 8 * k + 8 ≤ s.size) : (ffPix s W H z (n + 1) k).told = .bad 1 s.size := by
  unfold ffPix Dec.told
  rw [if_neg h]
  rfl
theorem ffPix_told_yes {s : ByteArray} {W H z n k : Nat} (h : 16 + 8 * k + 8 ≤ s.size) : (ffPix s W H z (n + 1) k).told = (ffPix s W H z n (k + 1)).told := by
  rw [ffPix, Dec.told, if_pos h, Dec.told]
/-- the colour of a pixel -/
def ffC (s : ByteArray) (k : Nat) : Qc := ⟨ffU s (16 + 8 * k), ffU s (16 + 8 * k + 2), ffU s (16 + 8 * k + 4), ffU s (16 + 8 * k + 6)⟩
theorem ffC_list (s : ByteArray) (k : Nat) : (ffC s k).list = ffQ s k := rfl
theorem flat_snoc {L : List Qc} {s : ByteArray} {k : Nat} (h : flat L = ffBytes s k) : flat (L ++ [ffC s k]) = ffBytes s (k + 1) := by
  rw [flat_append, h, ffBytes]
  simp [flat, ffC_list]
theorem Blk.grown8 {w w' : World} {base k : Nat} {t : TypeId} {cs : Array Value} {v : Value} {l : List UInt8} (h : Blk w k t cs) (o : Owns8 w base v l) (ht : t ≠ 5) (hg : w.grownBy w' v.ownBlock) : Blk w' k t cs :=
  h.grown hg (fun e => by
    rcases o.2 with ⟨rfl, _⟩ | ⟨r, cap, cur, rfl, _, hr, _⟩
    · cases e
    · have hk : k = r := by simpa [Value.ownBlock] using e
      subst hk
      exact Blk.ne_ h hr ht rfl)
theorem OwnsQ.grown8 {w w' : World} {base base' : Nat} {v u : Value} {L : List Qc} {l : List UInt8} (h : OwnsQ w base v L) (o : Owns8 w base' u l) (hg : w.grownBy w' u.ownBlock) : OwnsQ w' base v L :=
  h.kept hg (by
    rcases h.2 with ⟨rfl, _⟩ | ⟨r, cap, cur, rfl, _, hr, _⟩
    · exact .inl rfl
    · refine .inr fun e => ?_
      rcases o.2 with ⟨rfl, _⟩ | ⟨r', cap', cur', rfl, _, hr', _⟩
      · cases e
      · have hk : r = r' := by simpa [Value.ownBlock] using e
        subst hk
        exact absurd rfl (Blk.ne_ hr hr' (by decide)))
theorem Owns8.form4 {w : World} {base : Nat} {v : Value} {u0 u1 u2 u3 : UInt8} (o : Owns8 w base v [u0, u1, u2, u3]) : ∃ g cap cur, v = .slice (some ⟨g, 0, none⟩) 4 cap ∧ 4 ≤ cap ∧ base ≤ g ∧ Blk w g 5 cur ∧ cur[0]? = some (.int .u8 (u0.toNat : Int)) ∧ cur[1]? = some (.int .u8 (u1.toNat : Int)) ∧ cur[2]? = some (.int .u8 (u2.toNat : Int)) ∧ cur[3]? = some (.int .u8 (u3.toNat : Int)) := by
  rcases o.2 with ⟨_, h⟩ | ⟨g, cap, cur, rfl, hb, hg, hc, hm, hs, ht⟩
  · simp at h
  · have key : ∀ j, j < 4 → cur[j]? = (C8 [u0, u1, u2, u3])[j]? := fun j hj => by
      rw [← Array.getElem?_toList, ← ht, List.getElem?_take_of_lt (by simpa using hj)]
    exact ⟨g, cap, cur, rfl, hc, hb, hg, key 0 (by omega), key 1 (by omega), key 2 (by omega), key 3 (by omega)⟩
end Go.Proofs.Ytgmgcfjllijhgaa
