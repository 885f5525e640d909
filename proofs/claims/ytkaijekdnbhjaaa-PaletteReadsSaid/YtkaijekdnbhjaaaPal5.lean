/- What the law PaletteReads keeps; Read, whatever is asked. -/
import Derived.Test.YtkaijekdnbhjaaaPal4
import Derived.Test.YtkaijekdnbhjaaaNearestOpen
namespace Go.Proofs.Ytkaijekdnbhjaaa
open Go.RowKit
set_option linter.unusedVariables false
set_option linter.unusedSimpArgs false

def zl (m y : Nat) : Led := ⟨0, 0, 2000, 1000, 4 * (m : Int), 4 * (m : Int), (y : Int), 0, 0⟩
def z0 : Led := ⟨0, 0, 2000, 1000, 0, 0, 0, 0, 0⟩
def zf (m y : Nat) : Led := ⟨0, 0, 2000, 1000, 0, 4 * (m : Int), (y : Int), 0, 0⟩
theorem z0_new : Led.new 0 0 2000 1000 = z0 := rfl
theorem z0_ok : z0.Ok := by constructor <;> decide
theorem zl_ok {m y : Nat} (hm : m ≤ 255) (hy : y ≤ 1000) : (zl m y).Ok := by
  constructor <;> simp only [zl] <;> omega
theorem z0_take {m : Nat} (hm : m ≤ 255) : z0.take ((4 * m : Nat) : Int) = (zl m 0, true) := by
  unfold Led.take z0 zl
  rw [if_neg (by decide)]
  simp only
  rw [if_neg (by omega)]
  simp only [Prod.mk.injEq, and_true, Led.mk.injEq, true_and]
  refine ⟨by omega, ?_, rfl⟩
  split <;> omega
theorem zl_work {m y : Nat} (hy : y < 1000) : (zl m y).work 1 = (zl m (y + 1), true) := by
  unfold Led.work zl
  rw [if_neg (by simp)]
  simp only
  rw [if_neg (by omega)]
  simp
theorem zl_give {m y n : Nat} (hn : n = 4 * m) : (zl m y).give (n : Int) = (zf m y, true) := by
  subst hn
  unfold Led.give zl zf
  rw [if_neg (by simp only; omega)]
  simp only [Prod.mk.injEq, and_true, Led.mk.injEq, true_and]
  omega
theorem zl_works {m n : Nat} (hm : m ≤ 255) (hn : n ≤ 1000) : Works (zl m) n := fun j hj => ⟨zl_ok hm (by omega), zl_work (by omega)⟩
structure PS (w0 w : World) (p b g d m : Nat) (v : Value) (L : List Qc) (y : Nat) : Prop where
  has : PalHas w p b g d m L
  own : OwnsQ w w0.heap.size v L
  led : LedAt w g (zl m y)
  below : Below w0.heap.size w0 w
section
variable {w0 w w' : World} {p b g d m y : Nat} {v : Value} {L : List Qc}
theorem PS.next (h : PS w0 w p b g d m v L y) (hb : Below w.heap.size w w') : PS w0 w' p b g d m v L y := ⟨h.has.below hb, h.own.below hb, Blk.below h.led hb (Blk.lt h.led), below_next h.below hb⟩
theorem PS.alloc (h : PS w0 w p b g d m v L y) (o : Obj) : PS w0 (w.alloc o) p b g d m v L y := h.next ((Below.refl _ _).alloc (Nat.le_refl _) _)
end
/-- what Read answers -/
def RP (k n : Int) (m : Nat) (s : ByteArray) (L : List Qc) (f : Int) (M : List Qc) : Prop :=
  ((psize k = 0 ∨ n < 0) ∧ f = 1 ∧ M = L) ∨ (psize k ≠ 0 ∧ 0 ≤ n ∧ (m : Int) - (L.length : Int) < n ∧ f = 7 ∧ M = L) ∨
    ∃ z N c : Nat, psize k = (z : Int) ∧ 1 ≤ z ∧ n = (N : Int) ∧ N ≤ m - L.length ∧ c * z ≤ s.size ∧ c ≤ N ∧ (c = N ∧ f = 0 ∨ c < N ∧ s.size < (c + 1) * z ∧ f = 5) ∧ M = L ++ ents k z s c
theorem palRead_law {w : World} {p b g d m q : Nat} {L : List Qc} {s : ByteArray} (n k : Int) (h : PalHas w p b g d m L) (hm : m ≤ 255) (hs : SrcAt w q g s 0 s.size 0) (hsz : s.size ≤ 300) (hL : LedAt w g (zl m 0)) :
    Calls Try.prog 15 #[.pointer (some ⟨p, 0, none⟩), .pointer (some ⟨q, 0, none⟩), .int .i64 n, .int .i64 k] w fun e w' => ∃ f M y, e = .returned (.int .i64 f) ∧ RP k n m s L f M ∧ PalHas w' p b g d m M ∧ LedAt w' g (zl m y) ∧ y ≤ 1000 ∧ Turn [p, d, q, g] w w' := by
  by_cases h1 : psize k = 0 ∨ n < 0
  · refine (palRead_arg _ _ n k w h1).mono ?_
    rintro e w' ⟨rfl, hb⟩
    exact ⟨1, L, 0, rfl, .inl ⟨h1, rfl, rfl⟩, h.below hb, Blk.below hL hb (Blk.lt hL), by omega, Turn.of_below hb⟩
  · have hk : psize k ≠ 0 := fun e => h1 (.inl e)
    have hn : 0 ≤ n := Int.not_lt.1 fun e => h1 (.inr e)
    have hLm := h.2.1
    by_cases h2 : (m : Int) - (L.length : Int) < n
    · refine (palRead_full h.1 _ n k hk hn ⟨by omega, by omega, by omega⟩ h2).mono ?_
      rintro e w' ⟨rfl, hb⟩
      exact ⟨7, L, 0, rfl, .inr (.inl ⟨hk, hn, h2, rfl, rfl⟩), h.below hb, Blk.below hL hb (Blk.lt hL), by omega, Turn.of_below hb⟩
    · obtain ⟨N, rfl⟩ := Int.eq_ofNat_of_zero_le hn
      obtain ⟨z, hz⟩ := Int.eq_ofNat_of_zero_le (psize_four (k := k)).1
      have hz1 : 1 ≤ z := by omega
      refine (palRead_run (Z := zl m) (n := N) h (by omega) hs (by omega) hL (zl_works hm (by omega)) hz hz1 (by omega)).mono ?_
      rintro e w' ⟨c, y, he, c1, c2, hp, hl, hy, ht⟩
      rcases he with ⟨rfl, rfl⟩ | ⟨rfl, hc, hsh⟩
      · exact ⟨0, _, y, rfl, .inr (.inr ⟨z, c, c, hz, hz1, rfl, by omega, c1, c2, .inl ⟨rfl, rfl⟩, rfl⟩), hp, hl, by omega, ht⟩
      · exact ⟨5, _, y, rfl, .inr (.inr ⟨z, N, c, hz, hz1, rfl, by omega, c1, c2, .inr ⟨hc, hsh, rfl⟩, rfl⟩), hp, hl, by omega, ht⟩
/-- the colours that are handed in -/
def QRow (w : World) (a : Option Addr) (n : Nat) (C : List Qc) : Prop := n = C.length ∧ (n = 0 ∨ ∃ b off, a = some ⟨b, off, none⟩ ∧ QAt w b off C)
theorem q_int {z : Int} (h : 0 ≤ z ∧ z ≤ 255) : ((UInt8.ofNat z.toNat).toNat : Int) = z := by
  rw [ofNat8 (by omega)]; omega
theorem QRow.of {w : World} {a : Option Addr} {n : Nat} {cl : List Col} (h : SliceCols w a n cl) : ∃ C, QRow w a n C := by
  rcases h with rfl | ⟨b, off, rfl, hc⟩
  · exact ⟨[], rfl, .inl rfl⟩
  · refine ⟨(List.range n).map fun i => ⟨UInt8.ofNat (cl.getD i nocol).r.toNat, UInt8.ofNat (cl.getD i nocol).g.toNat, UInt8.ofNat (cl.getD i nocol).b.toNat, UInt8.ofNat (cl.getD i nocol).a.toNat⟩, by simp, .inr ⟨b, off, rfl, fun i q hi => ?_⟩⟩
    have hin : i < n := by have := (List.getElem?_eq_some_iff.1 hi).1; simpa using this
    rw [List.getElem?_map, List.getElem?_range hin] at hi
    simp only [Option.map_some, Option.some.injEq] at hi
    subst hi
    have ok := hc.ok i hin
    simp only [q_int ok.1, q_int ok.2.1, q_int ok.2.2.1, q_int ok.2.2.2]
    exact ⟨hc.cr i hin, hc.cg i hin, hc.cb i hin, hc.ca i hin⟩
theorem QAt.below {w w' : World} {b off : Nat} {C : List Qc} (h : QAt w b off C) (hb : Below w.heap.size w w') : QAt w' b off C := fun i q hi => by
  obtain ⟨h0, h1, h2, h3⟩ := h i q hi
  have hl := World.block_lt_of_cell? w _ h0
  exact ⟨(hb.cell (p := ⟨b, off + i * 4, none⟩) hl).trans h0, (hb.cell (p := ⟨b, off + i * 4 + 1, none⟩) hl).trans h1, (hb.cell (p := ⟨b, off + i * 4 + 2, none⟩) hl).trans h2, (hb.cell (p := ⟨b, off + i * 4 + 3, none⟩) hl).trans h3⟩
theorem Blk.grownQ {w w' : World} {base k : Nat} {t : TypeId} {cs : Array Value} {v : Value} {L : List Qc} (h : Blk w k t cs) (o : OwnsQ w base v L) (ht : t ≠ 34) (hg : w.grownBy w' v.ownBlock) : Blk w' k t cs :=
  h.grown hg (fun e => by
    rcases o.2 with ⟨rfl, _⟩ | ⟨r, cap, cur, rfl, _, hr, _⟩
    · cases e
    · have hk : k = r := by simpa [Value.ownBlock] using e
      subst hk
      exact Blk.ne_ h hr ht rfl)
theorem OwnsQ.slice {w : World} {base : Nat} {v : Value} {L : List Qc} (h : OwnsQ w base v L) : ∃ a c, v = .slice a L.length c := by
  rcases h.form with ⟨rfl, rfl⟩ | ⟨g, cap, rfl, _⟩
  · exact ⟨none, 0, rfl⟩
  · exact ⟨_, _, rfl⟩
theorem PalHas.grownQ {w w' : World} {base p b g d m : Nat} {v : Value} {L M : List Qc} (h : PalHas w p b g d m L) (o : OwnsQ w base v M) (hg : w.grownBy w' v.ownBlock) : PalHas w' p b g d m L := by
  obtain ⟨h1, h2, rest, h3, h4⟩ := h
  exact ⟨Blk.grownQ h1 o (by decide) hg, h2, rest, ⟨Blk.grownQ h3.blk o (by decide) hg, Blk.grownQ h3.row o (by decide) hg⟩, h4⟩
theorem OwnsQ.at_ {w : World} {base g n c : Nat} {L : List Qc} (h : OwnsQ w base (.slice (some ⟨g, 0, none⟩) n c) L) : QAt w g 0 L := by
  rcases h.form with ⟨e, rfl⟩ | ⟨g', cap, e, _, _, _, hq⟩
  · cases e
  · simp only [Value.slice.injEq, Option.some.injEq, Addr.mk.injEq] at e
    rw [e.1.1]
    exact hq
theorem ps_free {w0 w : World} {p b g d m y : Nat} {v : Value} {L : List Qc} (h : PS w0 w p b g d m v L y) (hm : m ≤ 255) (hy : y ≤ 1000) :
    Calls Try.prog 20 #[.pointer (some ⟨p, 0, none⟩)] w fun e w' => e = .returned (.bool true) ∧ PalAt w' p b 0 0 ∧ BufOff w' b g ∧ LedAt w' g (zf m y) ∧ Turn [p, b, g] w w' := by
  obtain ⟨⟨h1, h2, rest, h3, h4⟩, ho, hl, hb⟩ := h
  exact palFree_yes h1 h3 hl (zl_ok hm hy) (zl_give (by rw [List.length_append, flat_len, h4]))
end Go.Proofs.Ytkaijekdnbhjaaa
