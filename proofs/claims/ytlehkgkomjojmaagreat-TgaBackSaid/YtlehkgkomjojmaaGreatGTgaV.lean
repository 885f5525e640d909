/- The document's pixels of TGA's. -/
import Derived.Test.YtlehkgkomjojmaaGreatSq
import Derived.Test.YtlehkgkomjojmaaGreatGTgaR
import Derived.Test.YtlehkgkomjojmaaGreatGTgaKm
import Derived.Test.YtlehkgkomjojmaaGreatGFfRef3
import Derived.Test.YtlehkgkomjojmaaGreatGWrA
namespace Go.Proofs.YtlehkgkomjojmaaGreat
open Go.RowKit
set_option linter.unusedVariables false
set_option linter.unusedSimpArgs false

def tgaDocD (h : TgaHd) : (Nat × Nat) ⊕ (List Qc) → DRes
 | .inl g => .bad g.1 g.2
 | .inr L => .img h.W h.H (flat (tgaPerm h L))
theorem tgaPixR_docD {s : ByteArray} {h : TgaHd} {M : List Qc} {a : Nat} : tgaPixR s h M a = tgaDocD h (tgaDocR s h M (h.W * h.H) (h.W * h.H) a []) := by
 rw [tgaPixR_doc]
 cases tgaDocR s h M (h.W * h.H) (h.W * h.H) a [] <;> rfl
/-- what holds while pixels are read -/
structure TvI (w0 w : World) (h : TgaHd) (mi at0 : Int) (v u : Value) (L : List Qc) : Prop where
 Hd : Blk w w0.heap.size 133 (tHdD h mi)
 Mp : Blk w (w0.heap.size + 1) 136 #[.int .i64 at0, v, .int .i64 0, .int .i64 0]
 A : RI w (w0.heap.size + 2) 0 0 (.slice none 0 0) 0 0
 O : OwnsQ w w0.heap.size u L
 B : Below w0.heap.size w0 w
def TvC (w : World) (b : Nat) (h : TgaHd) (mi : Int) : Prop := w.cell? ⟨b, 0, none⟩ = some (.int .i64 (h.name : Int)) ∧ w.cell? ⟨b, 1, none⟩ = some (.int .i64 mi) ∧ w.cell? ⟨b, 2, none⟩ = some (.int .i64 (h.typ : Int)) ∧ w.cell? ⟨b, 3, none⟩ = some (.int .i64 (h.first : Int)) ∧ w.cell? ⟨b, 4, none⟩ = some (.int .i64 (h.count : Int)) ∧ w.cell? ⟨b, 5, none⟩ = some (.int .i64 (h.entry : Int)) ∧ w.cell? ⟨b, 6, none⟩ = some (.int .i64 (h.W : Int)) ∧ w.cell? ⟨b, 7, none⟩ = some (.int .i64 (h.H : Int)) ∧ w.cell? ⟨b, 8, none⟩ = some (.int .i64 (h.depth : Int)) ∧ w.cell? ⟨b, 9, none⟩ = some (.int .i64 (h.alpha : Int)) ∧ w.cell? ⟨b, 10, none⟩ = some (.bool h.left) ∧ w.cell? ⟨b, 11, none⟩ = some (.bool h.top) ∧ w.cell? ⟨b, 12, none⟩ = some (.int .i64 0) ∧ w.cell? ⟨b, 13, none⟩ = some (.int .i64 0)
section
variable {w0 w w' : World} {h : TgaHd} {mi at0 : Int} {v u : Value} {L : List Qc}
theorem TvI.below (I : TvI w0 w h mi at0 v u L) (b : Below w.heap.size w w') : TvI w0 w' h mi at0 v u L :=
 ⟨Blk.below I.Hd b (Blk.lt I.Hd), Blk.below I.Mp b (Blk.lt I.Mp), Blk.below I.A b (Blk.lt I.A), I.O.below b, below_next I.B b⟩
theorem TvI.alloc (I : TvI w0 w h mi at0 v u L) (x : Obj) : TvI w0 (w.alloc x) h mi at0 v u L := I.below ((Below.refl _ _).alloc (Nat.le_refl _) _)
theorem TvI.drew (I : TvI w0 w h mi at0 v u L) : TvI w0 w.drew h mi at0 v u L := ⟨Blk.drew I.Hd, Blk.drew I.Mp, Blk.drew I.A, I.O, I.B.drew⟩
theorem TvI.grow {u' : Value} {c : Qc} (I : TvI w0 w h mi at0 v u L) (o : OwnsQ w' w0.heap.size u' (L ++ [c])) (b : Below w0.heap.size w w') (g : w.grownBy w' u.ownBlock) : TvI w0 w' h mi at0 v u' (L ++ [c]) :=
 ⟨Blk.grownQ I.Hd I.O (by decide) g, Blk.grownQ I.Mp I.O (by decide) g, Blk.grownQ I.A I.O (by decide) g, o, I.B.trans b⟩
theorem tvC {b : Nat} (H : Blk w b 133 (tHdD h mi)) : TvC w b h mi := ⟨Blk.cell H 0, Blk.cell H 1, Blk.cell H 2, Blk.cell H 3, Blk.cell H 4, Blk.cell H 5, Blk.cell H 6, Blk.cell H 7, Blk.cell H 8, Blk.cell H 9, Blk.cell H 10, Blk.cell H 11, Blk.cell H 12, Blk.cell H 13⟩
/-- what holds while they are laid out -/
structure FiI (w0 w : World) (h : TgaHd) (mi : Int) (u : Value) (L : List Qc) (po g N k : Nat) : Prop where
 Hd : Blk w w0.heap.size 133 (tHdD h mi)
 A : RI w (w0.heap.size + 2) 0 0 (.slice none 0 0) 0 0
 X : RI w po (h.W : Int) (h.H : Int) (.slice (some ⟨g, 0, none⟩) N N) 0 0
 O : OwnsQ w w0.heap.size u L
 G : ∃ cs, Blk w g 68 cs ∧ cs.size = N * 4
 Q : QAt w g 0 (tgaPerm h (L.take k))
 B : Below w0.heap.size w0 w
 ng : ∀ j, u.ownBlock = some j → j ≠ g
 np : w0.heap.size + 2 < po
 gb : w0.heap.size ≤ g
theorem FiI.below {po g N k : Nat} (I : FiI w0 w h mi u L po g N k) (b : Below w.heap.size w w') : FiI w0 w' h mi u L po g N k := by
 obtain ⟨cs, hc, hs⟩ := I.G
 exact ⟨Blk.below I.Hd b (Blk.lt I.Hd), Blk.below I.A b (Blk.lt I.A), Blk.below I.X b (Blk.lt I.X), I.O.below b, ⟨cs, Blk.below hc b (Blk.lt hc), hs⟩, I.Q.below b, below_next I.B b, I.ng, I.np, I.gb⟩
theorem FiI.drew {po g N k : Nat} (I : FiI w0 w h mi u L po g N k) : FiI w0 w.drew h mi u L po g N k := by
 obtain ⟨cs, hc, hs⟩ := I.G
 exact ⟨Blk.drew I.Hd, Blk.drew I.A, Blk.drew I.X, I.O, ⟨cs, Blk.drew hc, hs⟩, I.Q, I.B.drew, I.ng, I.np, I.gb⟩
theorem made_size (n : Nat) : (madeCells #[.int .u8 0, .int .u8 0, .int .u8 0, .int .u8 0] n).size = n := by simp [madeCells]
theorem QAt.farS {w : World} {g k : Nat} {u0 u1 u2 u3 u4 : Value} {L : List Qc} (h : QAt w g 0 L) (hk : g ≠ k) : QAt (st5 w k u0 u1 u2 u3 u4) g 0 L := ((((h.far hk).far hk).far hk).far hk).far hk
/-- both are made -/
structure TwI (w0 w : World) (u : Value) (po g N : Nat) : Prop where
 P : RI w po 0 0 (.slice none 0 0) 0 0
 G : ∃ cs, Blk w g 68 cs ∧ cs.size = N * 4
 Q : QAt w g 0 (List.replicate N q0)
 ng : ∀ j, u.ownBlock = some j → j ≠ g
 np : w0.heap.size + 2 < po
 gb : w0.heap.size ≤ g
theorem TwI.a {N : Nat} (I : TvI w0 w h mi at0 v u L) : TwI w0 ((w.alloc (.cells (madeCells #[.int .u8 0, .int .u8 0, .int .u8 0, .int .u8 0] (N * 4)) 68)).alloc (.cells #[.int .i64 0, .int .i64 0, .slice none 0 0, .int .i64 0, .int .i64 0] 44)) u (w.heap.size + 1) w.heap.size N :=
 ⟨Blk.new_at _ _ _ (by simp), ⟨_, Blk.alloc (Blk.new _ _ _) _, made_size _⟩, (q_made w N).below' ((Below.refl _ _).alloc (Nat.le_refl _) _), fun j hj => by have := (World.ownsRow.lt I.O j hj).2; omega, by have := Blk.lt I.A; omega, I.B.size⟩
theorem TwI.b {N : Nat} (I : TvI w0 w h mi at0 v u L) : TwI w0 ((w.alloc (.cells #[.int .i64 0, .int .i64 0, .slice none 0 0, .int .i64 0, .int .i64 0] 44)).alloc (.cells (madeCells #[.int .u8 0, .int .u8 0, .int .u8 0, .int .u8 0] (N * 4)) 68)) u w.heap.size (w.heap.size + 1) N := by
 have Q1 : QAt ((w.alloc (.cells #[.int .i64 0, .int .i64 0, .slice none 0 0, .int .i64 0, .int .i64 0] 44)).alloc (.cells (madeCells #[.int .u8 0, .int .u8 0, .int .u8 0, .int .u8 0] (N * 4)) 68)) (w.heap.size + 1) 0 (List.replicate N q0) := by
  have q := q_made (w.alloc (.cells #[.int .i64 0, .int .i64 0, .slice none 0 0, .int .i64 0, .int .i64 0] 44)) N
  rwa [show (w.alloc (.cells #[.int .i64 0, .int .i64 0, .slice none 0 0, .int .i64 0, .int .i64 0] 44)).heap.size = w.heap.size + 1 by simp] at q
 exact ⟨Blk.alloc (Blk.new _ _ _) _, ⟨_, Blk.new_at _ _ _ (by simp), made_size _⟩, Q1, fun j hj => by have := (World.ownsRow.lt I.O j hj).2; omega, Blk.lt I.A, by have := I.B.size; omega⟩
theorem FiI.start {po g N : Nat} (I : TvI w0 w h mi at0 v u L) (T : TwI w0 w u po g N) (hN : h.W * h.H = N) : FiI w0 (st5 w po (.int .i64 (h.W : Int)) (.int .i64 (h.H : Int)) (.slice (some ⟨g, 0, none⟩) N N) (.int .i64 0) (.int .i64 0)) h mi u L po g N 0 := by
 obtain ⟨cs, hc, hs⟩ := T.G
 have np := T.np
 refine ⟨Blk.st5 I.Hd (Blk.ne_ I.Hd T.P (by decide)), Blk.st5 I.A (by omega), RI.st5 T.P, OwnsQ.st5RI I.O T.P, ⟨_, Blk.st5 hc (Blk.ne_ hc T.P (by decide)), hs⟩, ?_, Below.st5 I.B (by omega), T.ng, T.np, T.gb⟩
 rw [List.take_zero, tgaPerm_nil, hN]
 exact T.Q.farS (Blk.ne_ hc T.P (by decide))
/-- one more is laid -/
theorem FiI.next {po g N k : Nat} {q : Qc} (I : FiI w0 w h mi u L po g N k) (hN : h.W * h.H = N) (hw1 : 1 ≤ h.W) (hk : L[k]? = some q) (hkN : k < N) :
  FiI w0 ((((w.setCell ⟨g, h.place k * 4, none⟩ (.int .u8 (q.r.toNat : Int))).setCell ⟨g, h.place k * 4 + 1, none⟩ (.int .u8 (q.g.toNat : Int))).setCell ⟨g, h.place k * 4 + 2, none⟩ (.int .u8 (q.b.toNat : Int))).setCell ⟨g, h.place k * 4 + 3, none⟩ (.int .u8 (q.a.toNat : Int))) h mi u L po g N (k + 1) := by
 obtain ⟨cs, hc, hs⟩ := I.G
 have hP : h.place k < N := by rw [← hN]; exact h.place_lt hw1 (by omega)
 have nH := Blk.ne_ I.Hd hc (by decide)
 have nA := Blk.ne_ I.A hc (by decide)
 have nX := Blk.ne_ I.X hc (by decide)
 have T : Turn [g] w ((((w.setCell ⟨g, h.place k * 4, none⟩ (.int .u8 (q.r.toNat : Int))).setCell ⟨g, h.place k * 4 + 1, none⟩ (.int .u8 (q.g.toNat : Int))).setCell ⟨g, h.place k * 4 + 2, none⟩ (.int .u8 (q.b.toNat : Int))).setCell ⟨g, h.place k * 4 + 3, none⟩ (.int .u8 (q.a.toNat : Int))) := ((((Turn.refl _ _).set_ _ _ (.inl (by simp))).set_ _ _ (.inl (by simp))).set_ _ _ (.inl (by simp))).set_ _ _ (.inl (by simp))
 have O2 : OwnsQ ((((w.setCell ⟨g, h.place k * 4, none⟩ (.int .u8 (q.r.toNat : Int))).setCell ⟨g, h.place k * 4 + 1, none⟩ (.int .u8 (q.g.toNat : Int))).setCell ⟨g, h.place k * 4 + 2, none⟩ (.int .u8 (q.b.toNat : Int))).setCell ⟨g, h.place k * 4 + 3, none⟩ (.int .u8 (q.a.toNat : Int))) w0.heap.size u L := by
  refine ⟨I.O.1, ?_⟩
  rcases I.O.2 with e | ⟨g', cap, cur, e, hb, hg, rest⟩
  ·exact .inl e
  ·have hgg : g' ≠ g := I.ng g' (by rw [e]; rfl)
   exact .inr ⟨g', cap, cur, e, hb, Blk.far (Blk.far (Blk.far (Blk.far (hg : Blk w g' 68 cur) (p := ⟨g, _, none⟩) hgg _) (p := ⟨g, _, none⟩) hgg _) (p := ⟨g, _, none⟩) hgg _) (p := ⟨g, _, none⟩) hgg _, rest⟩
 refine ⟨Blk.far (Blk.far (Blk.far (Blk.far I.Hd (p := ⟨g, _, none⟩) nH _) (p := ⟨g, _, none⟩) nH _) (p := ⟨g, _, none⟩) nH _) (p := ⟨g, _, none⟩) nH _, Blk.far (Blk.far (Blk.far (Blk.far I.A (p := ⟨g, _, none⟩) nA _) (p := ⟨g, _, none⟩) nA _) (p := ⟨g, _, none⟩) nA _) (p := ⟨g, _, none⟩) nA _, Blk.far (Blk.far (Blk.far (Blk.far I.X (p := ⟨g, _, none⟩) nX _) (p := ⟨g, _, none⟩) nX _) (p := ⟨g, _, none⟩) nX _) (p := ⟨g, _, none⟩) nX _, O2, ⟨_, Blk.set_ (Blk.set_ (Blk.set_ (Blk.set_ hc _ _) _ _) _ _) _ _, by simp only [Array.size_setIfInBounds]; exact hs⟩, ?_, below_set (below_set (below_set (below_set I.B I.gb) I.gb) I.gb) I.gb, I.ng, I.np, I.gb⟩
 rw [tgaPerm_take hk]
 exact QAt.set hc I.Q (by rw [tgaPerm_len, hN]; exact hP) (by omega)
theorem fiS {po g gu cu N k k' : Nat} {q : Qc} (I : FiI w0 w h mi (.slice (some ⟨gu, 0, none⟩) N cu) L po g N k') (hq : L[k]? = some q) : TvC w w0.heap.size h mi ∧ w.cell? ⟨po, 2, none⟩ = some (.slice (some ⟨g, 0, none⟩) N N) ∧ w.cell? ⟨gu, k * 4, none⟩ = some (.int .u8 (q.r.toNat : Int)) ∧ w.cell? ⟨gu, k * 4 + 1, none⟩ = some (.int .u8 (q.g.toNat : Int)) ∧ w.cell? ⟨gu, k * 4 + 2, none⟩ = some (.int .u8 (q.b.toNat : Int)) ∧ w.cell? ⟨gu, k * 4 + 3, none⟩ = some (.int .u8 (q.a.toNat : Int)) := by
 have e := I.O.at_ k q hq
 rw [Nat.zero_add] at e
 exact ⟨tvC I.Hd, Blk.cell I.X 2, e.1, e.2.1, e.2.2.1, e.2.2.2⟩
theorem FiI.fin {po g N : Nat} (I : FiI w0 w h mi u L po g N N) (hN : h.W * h.H = N) (hL : L.length = N) (hm : N ≤ maxLen) : Below w0.heap.size w0 (st5 w (w0.heap.size + 2) (.int .i64 (h.W : Int)) (.int .i64 (h.H : Int)) (.slice (some ⟨g, 0, none⟩) N N) (.int .i64 0) (.int .i64 0)) ∧ OwnsQ (st5 w (w0.heap.size + 2) (.int .i64 (h.W : Int)) (.int .i64 (h.H : Int)) (.slice (some ⟨g, 0, none⟩) N N) (.int .i64 0) (.int .i64 0)) w0.heap.size (.slice (some ⟨g, 0, none⟩) N N) (tgaPerm h L) := by
 obtain ⟨cs, hc, hs⟩ := I.G
 have nA := Blk.ne_ hc I.A (by decide)
 have hq := I.Q
 rw [← hL, List.take_length] at hq
 have hlen : (tgaPerm h L).length = N := by rw [tgaPerm_len, hN]
 refine ⟨Below.st5 I.B (by omega), ?_⟩
 have := OwnsQ.of_at (cap := N) I.gb (Blk.st5 (u0 := .int .i64 (h.W : Int)) (u1 := .int .i64 (h.H : Int)) (u2 := .slice (some ⟨g, 0, none⟩) N N) (u3 := .int .i64 0) (u4 := .int .i64 0) hc nA) hs (by rw [hlen]; exact Nat.le_refl _) hm (hq.farS nA)
 rw [hlen] at this
 exact this
end
set_option maxRecDepth 100000 in
set_option maxHeartbeats 8000000 in
theorem refTgaReadPx {w : World} {s : ByteArray} {h : TgaHd} {M : List Qc} {v : Value} {at0 : Nat} {D : DRes} (hh : h.Ok) (RM : RowM w v M) (hM : M.length ≤ 65535) (hs : s.size ≤ 100000) (ha : at0 ≤ s.size) (hD : tgaPixR s h M at0 = D) :
  Calls Tryz.prog 74 #[.string s, tRV h, tMapV (at0 : Int) v 0 0] w fun e w' => RefPost D w w' e := by
 have hd : h.depth = 8 ∨ TgaCol h.depth := by
  have := hh.d1
  unfold TgaDepth at this
  split at this
  ·exact .inr this
  ·exact .inl this
 obtain ⟨va, vn, vc, rfl⟩ : ∃ a n c, v = .slice a n c := by
  rcases RM with ⟨rfl, _⟩ | ⟨g, cap, rfl, _, _⟩
  ·exact ⟨_, _, _, rfl⟩
  ·exact ⟨_, _, _, rfl⟩
 have hsI : (s.size : Int) ≤ 100000 := by omega
 obtain ⟨N, hN⟩ : ∃ N, h.W * h.H = N := ⟨_, rfl⟩
 have hw1 := hh.w1
 have hw2 := hh.w2
 have hh1 := hh.h1
 have hh2 := hh.h2
 have hNB : N ≤ 16384 * 16384 := by rw [← hN]; exact Nat.mul_le_mul hw2 hh2
 have hN1 : 1 ≤ N := by rw [← hN]; exact Nat.mul_pos hw1 hh1
 have hNI : IntKind.i64.wrap ((h.W : Int) * (h.H : Int)) = (N : Int) := prod3_in hN (by omega)
 obtain ⟨z, hz⟩ : ∃ z, h.size = z := ⟨_, rfl⟩
 have hz4 : z ≤ 4 := by
  rw [← hz]
  unfold TgaHd.size
  rcases hd with e | e
  ·omega
  ·unfold TgaCol at e; omega
 have HSZ := Lib.hid (fun w => refTgaSize hd hz w)
 have HPX := Lib.hid (fun (w9 : World) (a : Nat) (R9 : RowM w9 (.slice va vn vc) M) (h9 : a ≤ s.size) => refTgaPixE hh R9 hM hs h9)
 have HPL := Lib.hid (fun (w9 : World) (k P : Nat) (h9 : k < h.W * h.H) (h8 : h.place k = P) => refTgaPlace h9 hw1 hw2 hh2 h8 w9)
 unfold tRV tRdV at HSZ HPX HPL ⊢
 unfold Qc.v at HPX
 unfold tMapV
 obtain ⟨mi, hmi⟩ : ∃ mi, (if h.map = true then (1 : Int) else 0) = mi := ⟨_, rfl⟩
 rw [hmi] at HSZ HPX HPL ⊢
 obtain ⟨rr, hrr⟩ : ∃ rr, tgaDocR s h M N N at0 [] = rr := ⟨_, rfl⟩
 have HD : Hid (tgaDocD h rr = D) := Lib.hid (by rw [← hD, tgaPixR_docD, hN, hrr])
 have HRR := Lib.hid hrr
 have HRM := Lib.hid RM
 have HN := Lib.hid hN
 have HZ := Lib.hid hz
 obtain ⟨i0, hi, hz0, hz1, hz2⟩ := info_parts infoQ
 have hmk : ∀ w : World, (Instr.makeSlice 42 (.int .i64 (N : Int)) (.int .i64 (N : Int))).run Tryz.prog w = .ok (.slice (some ⟨w.heap.size, 0, none⟩) N N) (w.alloc (.cells (madeCells #[.int .u8 0, .int .u8 0, .int .u8 0, .int .u8 0] (N * 4)) 68)) := fun w => by
  have := run_make w 42 68 i0 _ Tryz.underlying42 hi hz0 .i64 .i64 (N : Int) (N : Int) (by omega) (Int.le_refl _) (by rw [hz2]; omega) (by omega)
  rw [hz1, show (Value.agg #[.int .u8 0, .int .u8 0, .int .u8 0, .int .u8 0]).cells = #[.int .u8 0, .int .u8 0, .int .u8 0, .int .u8 0] from rfl] at this
  simpa using this
 have HMK := Lib.hid hmk
 have HKT := Lib.hid hh.t1
 have H1 : Blk (((w.alloc (.cells #[.int .i64 (h.name : Int), .int .i64 mi, .int .i64 (h.typ : Int), .int .i64 (h.first : Int), .int .i64 (h.count : Int), .int .i64 (h.entry : Int), .int .i64 (h.W : Int), .int .i64 (h.H : Int), .int .i64 (h.depth : Int), .int .i64 (h.alpha : Int), .bool h.left, .bool h.top, .int .i64 0, .int .i64 0] 133)).alloc (.cells #[.int .i64 (at0 : Int), .slice va vn vc, .int .i64 0, .int .i64 0] 136)).alloc (.cells #[.int .i64 0, .int .i64 0, .slice none 0 0, .int .i64 0, .int .i64 0] 44)) w.heap.size 133 (tHdD h mi) := Blk.alloc (Blk.alloc (Blk.new _ _ _) _) _
 have M1 : Blk (((w.alloc (.cells #[.int .i64 (h.name : Int), .int .i64 mi, .int .i64 (h.typ : Int), .int .i64 (h.first : Int), .int .i64 (h.count : Int), .int .i64 (h.entry : Int), .int .i64 (h.W : Int), .int .i64 (h.H : Int), .int .i64 (h.depth : Int), .int .i64 (h.alpha : Int), .bool h.left, .bool h.top, .int .i64 0, .int .i64 0] 133)).alloc (.cells #[.int .i64 (at0 : Int), .slice va vn vc, .int .i64 0, .int .i64 0] 136)).alloc (.cells #[.int .i64 0, .int .i64 0, .slice none 0 0, .int .i64 0, .int .i64 0] 44)) (w.heap.size + 1) 136 #[.int .i64 (at0 : Int), .slice va vn vc, .int .i64 0, .int .i64 0] := Blk.alloc (Blk.new_at _ _ _ (by simp)) _
 have A1 : RI (((w.alloc (.cells #[.int .i64 (h.name : Int), .int .i64 mi, .int .i64 (h.typ : Int), .int .i64 (h.first : Int), .int .i64 (h.count : Int), .int .i64 (h.entry : Int), .int .i64 (h.W : Int), .int .i64 (h.H : Int), .int .i64 (h.depth : Int), .int .i64 (h.alpha : Int), .bool h.left, .bool h.top, .int .i64 0, .int .i64 0] 133)).alloc (.cells #[.int .i64 (at0 : Int), .slice va vn vc, .int .i64 0, .int .i64 0] 136)).alloc (.cells #[.int .i64 0, .int .i64 0, .slice none 0 0, .int .i64 0, .int .i64 0] 44)) (w.heap.size + 2) 0 0 (.slice none 0 0) 0 0 := Blk.new_at _ _ _ (by simp)
 have B1 : Below w.heap.size w (((w.alloc (.cells #[.int .i64 (h.name : Int), .int .i64 mi, .int .i64 (h.typ : Int), .int .i64 (h.first : Int), .int .i64 (h.count : Int), .int .i64 (h.entry : Int), .int .i64 (h.W : Int), .int .i64 (h.H : Int), .int .i64 (h.depth : Int), .int .i64 (h.alpha : Int), .bool h.left, .bool h.top, .int .i64 0, .int .i64 0] 133)).alloc (.cells #[.int .i64 (at0 : Int), .slice va vn vc, .int .i64 0, .int .i64 0] 136)).alloc (.cells #[.int .i64 0, .int .i64 0, .slice none 0 0, .int .i64 0, .int .i64 0] 44)) := (((Below.refl _ _).alloc (Nat.le_refl _) _).alloc (by simp) _).alloc (by simp; omega) _
 clear hd hz hN hrr hD RM hmi hi hz0 hz1 hz2 hM hmk
 go_enter Tryz.func74, Tryz.ntmps74
 go_upto_region 1 with fail
 generalize (((w.alloc (.cells #[.int .i64 (h.name : Int), .int .i64 mi, .int .i64 (h.typ : Int), .int .i64 (h.first : Int), .int .i64 (h.count : Int), .int .i64 (h.entry : Int), .int .i64 (h.W : Int), .int .i64 (h.H : Int), .int .i64 (h.depth : Int), .int .i64 (h.alpha : Int), .bool h.left, .bool h.top, .int .i64 0, .int .i64 0] 133)).alloc (.cells #[.int .i64 (at0 : Int), .slice va vn vc, .int .i64 0, .int .i64 0] 136)).alloc (.cells #[.int .i64 0, .int .i64 0, .slice none 0 0, .int .i64 0, .int .i64 0] 44)) = w1 at H1 M1 A1 B1 ⊢
 have c6 : w1.cell? ⟨w.heap.size, 6, none⟩ = some (.int .i64 (h.W : Int)) := Blk.cell H1 6
 have c7 : w1.cell? ⟨w.heap.size, 7, none⟩ = some (.int .i64 (h.H : Int)) := Blk.cell H1 7
 go_upto_region 3 with fail
 have I2 : TvI w (w1.alloc (.cells #[] 68)) h mi (at0 : Int) (.slice va vn vc) (.slice (some ⟨w1.heap.size, 0, none⟩) 0 0) [] := ⟨Blk.alloc H1 _, Blk.alloc M1 _, Blk.alloc A1 _, by simpa [OwnsQ, cq] using World.ownsRow_made w1 (base := w.heap.size) (e := 68) (size := 4) #[] 0 B1.size (Nat.zero_le _) rfl, B1.alloc B1.size _⟩
 generalize w1.alloc (.cells #[] 68) = w2 at I2 ⊢
 generalize w1.heap.size = q8 at I2 ⊢
 clear c6 c7 H1 M1 A1 B1
 obtain ⟨c0, c1, c2, c3, c4, c5, c6, c7, c8, c9, c10, c11, c12, c13⟩ := tvC I2.Hd
 have m0 : w2.cell? ⟨w.heap.size + 1, 0, none⟩ = some (.int .i64 (at0 : Int)) := Blk.cell I2.Mp 0
 have HI2 := Lib.hid I2
 clear I2
 go_wp2_with (go_at_call 128; refine (HSZ.out _).mono ?_; rintro e w3 ⟨rfl, b3⟩; have HI3 := Lib.hid (HI2.out.below b3))
 clear c0 c1 c2 c3 c4 c5 c6 c7 c8 c9 c10 c11 c12 c13 m0 HI2 b3 HSZ
 go_loopg [8, 9, 11, 12, 13, 14, 15, 16] N (fun gh v8 v9 v11 v12 v13 v14 v15 v16 wr => ∃ (a m ca : Nat) (a8 : Option Addr) (L : List Qc), v8 = .slice a8 m ca ∧ v9 = .int .i64 (a : Int) ∧ L.length = m ∧ m ≤ N ∧ N ≤ m + gh ∧ a ≤ s.size ∧ Hid (tgaDocR s h M N gh a L = rr) ∧ Hid (TvI w wr h mi (at0 : Int) (.slice va vn vc) v8 L))
 case atStart => exact ⟨at0, 0, 0, some ⟨q8, 0, none⟩, [], rfl, rfl, rfl, Nat.zero_le _, by omega, ha, HRR, HI3⟩
 case round =>
  obtain ⟨a, m, ca, a8, L, rfl, rfl, hL, hmN, hNf, ha, HRUN, HI⟩ := hrel
  clear HRR HI3
  have HL := Lib.hid hL
  clear hL
  by_cases hfull : N ≤ m
  ·have hI : ¬ (m : Int) < (N : Int) := by omega
   have hmn : m = N := by omega
   have hrun := HRUN.out
   have HE : Hid (rr = .inr L) := Lib.hid (by
    rw [← hrun]
    cases gk with
    | zero => rfl
    | succ f => unfold tgaDocR; rw [if_pos (by rw [HL.out]; exact hfull)])
   clear hrun HRUN hfull hNf
   subst hmn
   clear hmN
   obtain ⟨gu, cu, hu, -⟩ := HI.out.O.some_ (M := L) rfl HL.out.symm hN1
   cases hu
   go_upto_region 24 with fail
   have I4 := HI.out.drew
   have c6 : wr.drew.cell? ⟨w.heap.size, 6, none⟩ = some (.int .i64 (h.W : Int)) := Blk.cell I4.Hd 6
   have c7 : wr.drew.cell? ⟨w.heap.size, 7, none⟩ = some (.int .i64 (h.H : Int)) := Blk.cell I4.Hd 7
   have hmk := HMK.out
   go_cut [17] from 98 to 104 (fun v17 wx => ∃ po g, v17 = .pointer (some ⟨po, 0, none⟩) ∧ Hid (FiI w wx h mi (.slice (some ⟨gu, 0, none⟩) m ca) L po g m 0))
   case first =>
    refine wp_region_held_drew (S := (fun w9 => w9.cell? ⟨w.heap.size, 6, none⟩ = some (.int .i64 (h.W : Int)) ∧ w9.cell? ⟨w.heap.size, 7, none⟩ = some (.int .i64 (h.H : Int)))) (by kernel_rfl) ⟨c6, c7⟩ (fun hHeld => ?_)
    generalize wr.drew = wd at I4 c6 c7 hHeld ⊢
    refine wpAnyH_take (i := 0) (v := ?_) rfl (by kernel_rfl) (by kernel_rfl) (by kernel_rfl) (fun _ _ _ h => h) (Or.inl ⟨by kernel_rfl, ?_⟩) (by assumption) ?_
    rotate_left
    ·intro w hSw; obtain ⟨s6, s7⟩ := hSw; go_simp; (try with_reducible rfl)
    (try simp only [sps])
    refine wpAnyH_take (i := 1) (v := ?_) rfl (by kernel_rfl) (by kernel_rfl) (by kernel_rfl) (fun _ _ _ h => h) (Or.inl ⟨by kernel_rfl, ?_⟩) (by assumption) ?_
    rotate_left
    ·intro w hSw; obtain ⟨s6, s7⟩ := hSw; go_simp; (try with_reducible rfl)
    (try simp only [sps])
    refine wpAnyH_take (i := 2) (v := ?_) rfl (by kernel_rfl) (by kernel_rfl) (by kernel_rfl) (fun _ _ _ h => h) (Or.inl ⟨by kernel_rfl, ?_⟩) (by assumption) ?_
    rotate_left
    ·intro w hSw; obtain ⟨s6, s7⟩ := hSw; go_simp; (try with_reducible rfl)
    (try simp only [sps])
    refine wpAnyH_take (i := 3) (v := ?_) rfl (by kernel_rfl) (by kernel_rfl) (by kernel_rfl) (fun _ _ _ h => h) (Or.inl ⟨by kernel_rfl, ?_⟩) (by assumption) ?_
    rotate_left
    ·intro w hSw; obtain ⟨s6, s7⟩ := hSw; go_simp; (try with_reducible rfl)
    (try simp only [sps])
    refine wpAnyH_take (i := 4) (v := ?_) rfl (by kernel_rfl) (by kernel_rfl) (by kernel_rfl) (fun _ _ _ h => h) (Or.inl ⟨by kernel_rfl, ?_⟩) (by assumption) ?_
    rotate_left
    ·intro w hSw; obtain ⟨s6, s7⟩ := hSw; go_simp; (try with_reducible rfl)
    (try simp only [sps])
    refine wpAnyH_ready (rs := [5, 7]) (by kernel_rfl) (by simp) ?_
    refine AllReadyH.cons rfl (fun K hK => ?_) (AllReadyH.cons rfl (fun K hK => ?_) AllReadyH.nil)
    ·go_simp
     have I5 := I4.alloc (.cells (madeCells #[.int .u8 0, .int .u8 0, .int .u8 0, .int .u8 0] (m * 4)) 68)
     refine hK.out _ _ ⟨Blk.cell I5.Hd 6, Blk.cell I5.Hd 7⟩ ?_
     clear hK K hHeld
     intro hHeld
     (try simp only [sps])
     refine wpAnyH_take (i := 6) (v := ?_) rfl (by kernel_rfl) (by kernel_rfl) (by kernel_rfl) (fun _ _ _ h => h) (Or.inl ⟨by kernel_rfl, ?_⟩) (by assumption) ?_
     rotate_left
     ·intro w hSw; obtain ⟨s6, s7⟩ := hSw; go_simp; (try with_reducible rfl)
     (try simp only [sps])
     refine rdy 7 (fun K hK => ?_)
     go_simp
     have I6 := I5.alloc (.cells #[.int .i64 0, .int .i64 0, .slice none 0 0, .int .i64 0, .int .i64 0] 44)
     refine hK.out _ _ ⟨Blk.cell I6.Hd 6, Blk.cell I6.Hd 7⟩ ?_
     clear hK K hHeld
     intro hHeld
     (try simp only [sps])
     have T6 : TwI w ((wd.alloc (.cells (madeCells #[.int .u8 0, .int .u8 0, .int .u8 0, .int .u8 0] (m * 4)) 68)).alloc (.cells #[.int .i64 0, .int .i64 0, .slice none 0 0, .int .i64 0, .int .i64 0] 44)) (.slice (some ⟨gu, 0, none⟩) m ca) (wd.heap.size + 1) wd.heap.size m := TwI.a I4
     clear I4 I5 c6 c7 hmk
     generalize ((wd.alloc (.cells (madeCells #[.int .u8 0, .int .u8 0, .int .u8 0, .int .u8 0] (m * 4)) 68)).alloc (.cells #[.int .i64 0, .int .i64 0, .slice none 0 0, .int .i64 0, .int .i64 0] 44)) = w6 at I6 T6 hHeld ⊢
     generalize wd.heap.size + 1 = po at T6 ⊢
     generalize wd.heap.size = g at T6 ⊢
     obtain ⟨X0, X1, X2, X3, X4, zX0, zX1, zX2, zX3, zX4, Xl⟩ := RI.all T6.P
     have F6 := FiI.start I6 T6 HN.out
     refine rdy 8 (fun K hK => ?_)
     go_simp
     have HF6 := Lib.hid F6
     refine hK.out _ _ ⟨Blk.cell F6.Hd 6, Blk.cell F6.Hd 7⟩ ?_
     clear hK K hHeld
     intro hHeld
     (try simp only [sps])
     refine wpAnyH_done (by kernel_rfl) ?_ _
     (try simp only [sps])
     clear hHeld
     go_wp2_with fail
     go_meet
     case rel => exact ⟨_, _, rfl, HF6⟩
    ·go_simp
     have I5 := I4.alloc (.cells #[.int .i64 0, .int .i64 0, .slice none 0 0, .int .i64 0, .int .i64 0] 44)
     refine hK.out _ _ ⟨Blk.cell I5.Hd 6, Blk.cell I5.Hd 7⟩ ?_
     clear hK K hHeld
     intro hHeld
     (try simp only [sps])
     refine rdy 5 (fun K hK => ?_)
     go_simp
     have I6 := I5.alloc (.cells (madeCells #[.int .u8 0, .int .u8 0, .int .u8 0, .int .u8 0] (m * 4)) 68)
     refine hK.out _ _ ⟨Blk.cell I6.Hd 6, Blk.cell I6.Hd 7⟩ ?_
     clear hK K hHeld
     intro hHeld
     (try simp only [sps])
     refine wpAnyH_take (i := 6) (v := ?_) rfl (by kernel_rfl) (by kernel_rfl) (by kernel_rfl) (fun _ _ _ h => h) (Or.inl ⟨by kernel_rfl, ?_⟩) (by assumption) ?_
     rotate_left
     ·intro w hSw; obtain ⟨s6, s7⟩ := hSw; go_simp; (try with_reducible rfl)
     (try simp only [sps])
     have T6 : TwI w ((wd.alloc (.cells #[.int .i64 0, .int .i64 0, .slice none 0 0, .int .i64 0, .int .i64 0] 44)).alloc (.cells (madeCells #[.int .u8 0, .int .u8 0, .int .u8 0, .int .u8 0] (m * 4)) 68)) (.slice (some ⟨gu, 0, none⟩) m ca) wd.heap.size (wd.heap.size + 1) m := TwI.b I4
     clear I4 I5 c6 c7 hmk
     generalize ((wd.alloc (.cells #[.int .i64 0, .int .i64 0, .slice none 0 0, .int .i64 0, .int .i64 0] 44)).alloc (.cells (madeCells #[.int .u8 0, .int .u8 0, .int .u8 0, .int .u8 0] (m * 4)) 68)) = w6 at I6 T6 hHeld ⊢
     generalize wd.heap.size + 1 = g at T6 ⊢
     generalize wd.heap.size = po at T6 ⊢
     obtain ⟨X0, X1, X2, X3, X4, zX0, zX1, zX2, zX3, zX4, Xl⟩ := RI.all T6.P
     have F6 := FiI.start I6 T6 HN.out
     refine rdy 8 (fun K hK => ?_)
     go_simp
     have HF6 := Lib.hid F6
     refine hK.out _ _ ⟨Blk.cell F6.Hd 6, Blk.cell F6.Hd 7⟩ ?_
     clear hK K hHeld
     intro hHeld
     (try simp only [sps])
     refine wpAnyH_done (by kernel_rfl) ?_ _
     (try simp only [sps])
     clear hHeld
     go_wp2_with fail
     go_meet
     case rel => exact ⟨_, _, rfl, HF6⟩
   case rest =>
    obtain ⟨po, g, rfl, HF⟩ := hcut
    clear I4 c6 c7 hmk HI
    go_wp2_with fail
    go_loopg [18] m (fun gh v18 wx => ∃ k : Nat, v18 = .int .i64 (k : Int) ∧ k + gh = m ∧ Hid (FiI w wx h mi (.slice (some ⟨gu, 0, none⟩) m ca) L po g m k))
    case atStart => exact ⟨0, rfl, by omega, HF⟩
    case round =>
     clear HF
     obtain ⟨k, rfl, hk, HF⟩ := hrel
     by_cases hkm : k < m
     ·have hkI : (k : Int) < (m : Int) := by omega
      obtain ⟨P, hP⟩ : ∃ P, h.place k = P := ⟨_, rfl⟩
      have hPm : P < m := by rw [← hP, ← HN.out]; exact h.place_lt hw1 (by rw [HN.out]; exact hkm)
      have hPI : (P : Int) < (m : Int) := by omega
      have HP := Lib.hid hP
      have HKP := Lib.hid (fun w9 => HPL.out w9 k P (by rw [HN.out]; exact hkm) hP)
      obtain ⟨q, hq⟩ : ∃ q, L[k]? = some q := ⟨_, List.getElem?_eq_getElem (by rw [HL.out]; exact hkm)⟩
      have HQ := Lib.hid hq
      clear hP hq
      go_upto_region 28 with fail
      have HX := Lib.hid HF.out.drew
      refine wp_region_held_drew (S := (fun w9 => TvC w9 w.heap.size h mi ∧ w9.cell? ⟨po, 2, none⟩ = some (.slice (some ⟨g, 0, none⟩) m m) ∧ w9.cell? ⟨gu, k * 4, none⟩ = some (.int .u8 (q.r.toNat : Int)) ∧ w9.cell? ⟨gu, k * 4 + 1, none⟩ = some (.int .u8 (q.g.toNat : Int)) ∧ w9.cell? ⟨gu, k * 4 + 2, none⟩ = some (.int .u8 (q.b.toNat : Int)) ∧ w9.cell? ⟨gu, k * 4 + 3, none⟩ = some (.int .u8 (q.a.toNat : Int)))) (by kernel_rfl) (fiS HX.out HQ.out) (fun hHeld => ?_)
      clear HF
      generalize wr.drew = wd at HX hHeld ⊢
      refine wpAnyH_take (i := 0) (v := ?_) rfl (by kernel_rfl) (by kernel_rfl) (by kernel_rfl) (fun _ _ _ h => h) (Or.inl ⟨by kernel_rfl, ?_⟩) (by assumption) ?_
      rotate_left
      ·intro w hSw; obtain ⟨⟨c0, c1, c2, c3, c4, c5, c6, c7, c8, c9, c10, c11, c12, c13⟩, sx, e0, e1, e2, e3⟩ := hSw; go_simp; (try with_reducible rfl)
      (try simp only [sps])
      refine wpAnyH_take (i := 1) (v := ?_) rfl (by kernel_rfl) (by kernel_rfl) (by kernel_rfl) (fun _ _ _ h => h) (Or.inl ⟨by kernel_rfl, ?_⟩) (by assumption) ?_
      rotate_left
      ·intro w hSw; obtain ⟨⟨c0, c1, c2, c3, c4, c5, c6, c7, c8, c9, c10, c11, c12, c13⟩, sx, e0, e1, e2, e3⟩ := hSw; go_simp; (try with_reducible rfl)
      (try simp only [sps])
      refine wpAnyH_take (i := 2) (v := ?_) rfl (by kernel_rfl) (by kernel_rfl) (by kernel_rfl) (fun _ _ _ h => h) (Or.inl ⟨by kernel_rfl, ?_⟩) (by assumption) ?_
      rotate_left
      ·intro w hSw; obtain ⟨⟨c0, c1, c2, c3, c4, c5, c6, c7, c8, c9, c10, c11, c12, c13⟩, sx, e0, e1, e2, e3⟩ := hSw; go_simp; (try with_reducible rfl)
      (try simp only [sps])
      refine wpAnyH_take (i := 3) (v := ?_) rfl (by kernel_rfl) (by kernel_rfl) (by kernel_rfl) (fun _ _ _ h => h) (Or.inl ⟨by kernel_rfl, ?_⟩) (by assumption) ?_
      rotate_left
      ·intro w hSw; obtain ⟨⟨c0, c1, c2, c3, c4, c5, c6, c7, c8, c9, c10, c11, c12, c13⟩, sx, e0, e1, e2, e3⟩ := hSw; go_simp; (try with_reducible rfl)
      (try simp only [sps])
      refine wpAnyH_take (i := 5) (v := ?_) rfl (by kernel_rfl) (by kernel_rfl) (by kernel_rfl) (fun _ _ _ h => h) (Or.inl ⟨by kernel_rfl, ?_⟩) (by assumption) ?_
      rotate_left
      ·intro w hSw; obtain ⟨⟨c0, c1, c2, c3, c4, c5, c6, c7, c8, c9, c10, c11, c12, c13⟩, sx, e0, e1, e2, e3⟩ := hSw; go_simp; (try with_reducible rfl)
      (try simp only [sps])
      refine wpAnyH_take (i := 6) (v := ?_) rfl (by kernel_rfl) (by kernel_rfl) (by kernel_rfl) (fun _ _ _ h => h) (Or.inl ⟨by kernel_rfl, ?_⟩) (by assumption) ?_
      rotate_left
      ·intro w hSw; obtain ⟨⟨c0, c1, c2, c3, c4, c5, c6, c7, c8, c9, c10, c11, c12, c13⟩, sx, e0, e1, e2, e3⟩ := hSw; go_simp; (try with_reducible rfl)
      (try simp only [sps])
      refine wpAnyH_take (i := 7) (v := ?_) rfl (by kernel_rfl) (by kernel_rfl) (by kernel_rfl) (fun _ _ _ h => h) (Or.inl ⟨by kernel_rfl, ?_⟩) (by assumption) ?_
      rotate_left
      ·intro w hSw; obtain ⟨⟨c0, c1, c2, c3, c4, c5, c6, c7, c8, c9, c10, c11, c12, c13⟩, sx, e0, e1, e2, e3⟩ := hSw; go_simp; (try with_reducible rfl)
      (try simp only [sps])
      refine wpAnyH_take (i := 8) (v := ?_) rfl (by kernel_rfl) (by kernel_rfl) (by kernel_rfl) (fun _ _ _ h => h) (Or.inl ⟨by kernel_rfl, ?_⟩) (by assumption) ?_
      rotate_left
      ·intro w hSw; obtain ⟨⟨c0, c1, c2, c3, c4, c5, c6, c7, c8, c9, c10, c11, c12, c13⟩, sx, e0, e1, e2, e3⟩ := hSw; go_simp; (try with_reducible rfl)
      (try simp only [sps])
      refine rdy 4 (fun K hK => ?_)
      go_simp
      refine (HKP.out _).mono ?_
      rintro e w8 ⟨rfl, b8⟩
      have HX8 := Lib.hid (HX.out.below b8)
      refine hK.out _ _ (fiS HX8.out HQ.out) ?_
      clear hK K hHeld
      intro hHeld
      (try simp only [sps])
      refine wpAnyH_take (i := 9) (v := ?_) rfl (by kernel_rfl) (by kernel_rfl) (by kernel_rfl) (fun _ _ _ h => h) (Or.inl ⟨by kernel_rfl, ?_⟩) (by assumption) ?_
      rotate_left
      ·intro w hSw; obtain ⟨⟨c0, c1, c2, c3, c4, c5, c6, c7, c8, c9, c10, c11, c12, c13⟩, sx, e0, e1, e2, e3⟩ := hSw; go_simp; (try with_reducible rfl)
      (try simp only [sps])
      obtain ⟨cs, hcs, hcz⟩ := HX8.out.G
      have n0 := Blk.frozen hcs (P * 4)
      have n1 := Blk.frozen hcs (P * 4 + 1)
      have n2 := Blk.frozen hcs (P * 4 + 2)
      have n3 := Blk.frozen hcs (P * 4 + 3)
      obtain ⟨qo, hqo⟩ : ∃ qo, (tgaPerm h (L.take k))[P]? = some qo := ⟨_, List.getElem?_eq_getElem (by rw [tgaPerm_len, HN.out]; exact hPm)⟩
      obtain ⟨k0, k1, k2, k3⟩ := HX8.out.Q P qo hqo
      rw [Nat.zero_add] at k0 k1 k2 k3
      refine rdy 10 (fun K hK => ?_)
      go_simp
      have F9 : FiI w ((((w8.setCell ⟨g, P * 4, none⟩ (.int .u8 (q.r.toNat : Int))).setCell ⟨g, P * 4 + 1, none⟩ (.int .u8 (q.g.toNat : Int))).setCell ⟨g, P * 4 + 2, none⟩ (.int .u8 (q.b.toNat : Int))).setCell ⟨g, P * 4 + 3, none⟩ (.int .u8 (q.a.toNat : Int))) h mi (.slice (some ⟨gu, 0, none⟩) m ca) L po g m (k + 1) := by
       have := HX8.out.next HN.out hw1 HQ.out hkm
       rw [HP.out] at this
       exact this
      clear n0 n1 n2 n3 k0 k1 k2 k3 hqo hcs hcz
      generalize ((((w8.setCell ⟨g, P * 4, none⟩ (.int .u8 (q.r.toNat : Int))).setCell ⟨g, P * 4 + 1, none⟩ (.int .u8 (q.g.toNat : Int))).setCell ⟨g, P * 4 + 2, none⟩ (.int .u8 (q.b.toNat : Int))).setCell ⟨g, P * 4 + 3, none⟩ (.int .u8 (q.a.toNat : Int))) = w9 at F9 ⊢
      have HZF := Lib.hid F9
      clear F9
      refine hK.out _ _ (fiS HZF.out HQ.out) ?_
      clear hK K hHeld
      intro hHeld
      (try simp only [sps])
      refine wpAnyH_done (by kernel_rfl) ?_ _
      (try simp only [sps])
      clear hHeld HX HX8 b8 HKP HP HQ
      go_wp2_with fail
      go_roundg (m - (k + 1))
      case measure => omega
      case rel => exact ⟨k + 1, by go_num, by omega, HZF⟩
     ·obtain rfl : k = m := by omega
      have hkI : ¬ (k : Int) < (k : Int) := by omega
      obtain ⟨x0, x1, x2, x3, x4, zx0, zx1, zx2, zx3, zx4, xl⟩ := RI.all HF.out.A
      obtain ⟨X0, X1, X2, X3, X4, zX0, zX1, zX2, zX3, zX4, Xl⟩ := RI.all HF.out.X
      clear hkm hk
      go_wp2_with fail
      exact bodyPost_ret (v := .agg #[.int .i64 (h.W : Int), .int .i64 (h.H : Int), .slice (some ⟨g, 0, none⟩) k k, .int .i64 0, .int .i64 0]) (by simp [results, Tryz.results74, go_sem, x0, x1, x2, x3, x4]) rfl (by
       have hD := HD.out
       rw [HE.out] at hD
       rw [← hD]
       obtain ⟨f1, f2⟩ := HF.out.fin HN.out HL.out (by unfold maxLen; omega)
       exact ⟨f1, _, _, rfl, f2, rfl, by rw [tgaPerm_len]⟩)
  ·have hI : (m : Int) < (N : Int) := by omega
   obtain ⟨f, rfl⟩ : ∃ f', gk = f' + 1 := ⟨gk - 1, by omega⟩
   have hrun := HRUN.out
   unfold tgaDocR tgaHdR at hrun
   rw [if_neg (by rw [HL.out]; exact hfull)] at hrun
   obtain ⟨c0, c1, c2, c3, c4, c5, c6, c7, c8, c9, c10, c11, c12, c13⟩ := tvC HI.out.Hd
   obtain ⟨x0, x1, x2, x3, x4, zx0, zx1, zx2, zx3, zx4, xl⟩ := RI.all HI.out.A
   by_cases hp : TgaPacked h.typ
   ·have hT : (8 : Int) < (h.typ : Int) := by have := hp.1; omega
    rw [if_pos hp] at hrun
    clear hp HRUN
    by_cases hks : a + 1 ≤ s.size
    ·have hge : ¬ (s.size : Int) ≤ (a : Int) := by omega
     have hlt : (a : Int) < (s.size : Int) := by omega
     have hksS : a < s.size := by omega
     have hksK : ¬ s.size ≤ a := by omega
     rw [if_pos hks] at hrun
     have hb0 := bat_eq hksS
     have hbl := bat_lt s a
     obtain ⟨c, hc⟩ : ∃ c, bat s a % 128 + 1 = c := ⟨_, rfl⟩
     obtain ⟨cz, hc0⟩ : ∃ cz, bat s a % 128 = cz := ⟨_, rfl⟩
     have hXB : ((s[a].toNat : Nat) : Int) ≤ 255 := by omega
     have hcr : Int.tmod ((s[a].toNat : Nat) : Int) 128 = (cz : Int) := by
      rw [← hb0, Int.tmod_eq_emod_of_nonneg (by omega)]
      omega
     have hc01 : (cz : Int) + 1 = (c : Int) := by omega
     have hc0B : (cz : Int) ≤ 127 := by omega
     have hc1 : 1 ≤ c := by omega
     have hcB : c ≤ 128 := by omega
     rw [hc, HL.out] at hrun
     by_cases hmany : N - m < c
     ·have hmI : (N : Int) - (m : Int) < (c : Int) := by omega
      rw [if_pos hmany] at hrun
      have HZ2 := Lib.hid hrun
      clear hrun hb0 hbl hc hc0 hmany hfull
      go_wp2_with (go_at_call 47; refine (refBadC _ _ _).mono ?_; rintro e wb ⟨rfl, bb⟩; have JB := HI.out.below bb; clear x0 x1 x2 x3 x4 zx0 zx1 zx2 zx3 zx4 xl; obtain ⟨x0, x1, x2, x3, x4, zx0, zx1, zx2, zx3, zx4, xl⟩ := RI.all JB.A)
      exact bodyPost_ret (v := .agg #[.int .i64 0, .int .i64 0, .slice none 0 0, .int .i64 2, .int .i64 (a : Int)]) (by simp [results, Tryz.results74, go_sem, x0, x1, x2, x3, x4]) rfl (by
       have hD := HD.out
       rw [← HZ2.out] at hD
       rw [show D = DRes.bad 2 a from hD.symm]
       exact ⟨Below.st5 JB.B (by omega), rfl⟩)
     ·have hmI : ¬ (N : Int) - (m : Int) < (c : Int) := by omega
      have hmc : m + c ≤ N := by omega
      rw [if_neg hmany] at hrun
      obtain ⟨sb, hsb⟩ : ∃ sb, decide (128 ≤ bat s a) = sb := ⟨_, rfl⟩
      have hsI2 : decide ((128 : Int) ≤ ((s[a].toNat : Nat) : Int)) = sb := by
       rw [← hsb, ← hb0]
       exact decide_eq_decide.2 (by omega)
      rw [hsb] at hrun
      simp only at hrun
      obtain ⟨r, hr⟩ : ∃ r, tgaInR s h M sb c (a + 1) L = r := ⟨_, rfl⟩
      rw [hr] at hrun
      have HR := Lib.hid hr
      have HZ2 := Lib.hid hrun
      have ha1 : a + 1 ≤ s.size := hks
      obtain ⟨a1, hae⟩ : ∃ a1, a + 1 = a1 := ⟨_, rfl⟩
      have haI : (a : Int) + 1 = (a1 : Int) := by omega
      rw [hae] at HR ha1
      clear hrun hb0 hbl hc hc0 hmany hfull hr hsb hae hks
      go_wp2_with fail
      go_loopg [8, 9, 13, 14, 15, 16] c (fun gh v8 v9 v13 v14 v15 v16 wx => ∃ (i b mm c9 : Nat) (a9 : Option Addr) (K : List Qc), v8 = .slice a9 mm c9 ∧ v9 = .int .i64 (b : Int) ∧ v13 = .int .i64 (i : Int) ∧ i + gh = c ∧ K.length = mm ∧ mm = m + i ∧ b ≤ s.size ∧ Hid (tgaInR s h M sb gh b K = r) ∧ Hid (TvI w wx h mi (at0 : Int) (.slice va vn vc) v8 K))
      case atStart => exact ⟨0, a1, m, ca, a8, L, rfl, rfl, rfl, by omega, HL.out, rfl, by omega, HR, HI⟩
      case round =>
       clear HI HR c0 c1 c2 c3 c4 c5 c6 c7 c8 c9 c10 c11 c12 c13 x0 x1 x2 x3 x4 zx0 zx1 zx2 zx3 zx4 xl
       obtain ⟨i, b, mm, c9, a9, K, rfl, rfl, rfl, hi, hK, hmm, hb, HIN, HI⟩ := hrel
       have HK := Lib.hid hK
       have HMM := Lib.hid hmm
       clear hK hmm
       by_cases hic : i < c
       ·have hicI : (i : Int) < (c : Int) := by omega
        obtain ⟨gx, rfl⟩ : ∃ m, gk = m + 1 := ⟨gk - 1, by omega⟩
        have hin := HIN.out
        unfold tgaInR at hin
        clear HIN
        obtain ⟨c0, c1, c2, c3, c4, c5, c6, c7, c8, c9, c10, c11, c12, c13⟩ := tvC HI.out.Hd
        have m1 : wr.cell? ⟨w.heap.size + 1, 1, none⟩ = some (.slice va vn vc) := Blk.cell HI.out.Mp 1
        have RW := HRM.out.below HI.out.B
        go_upto_region 19 with (go_at_call 129; refine (HPX.out _ b RW hb).mono ?_; rintro e w7 ⟨b7, q, k, i7, rfl, hway⟩; have I7 := HI.out.below b7)
        have P8 : CB (w7.alloc (.cells #[.int .u8 (q.r.toNat : Int), .int .u8 (q.g.toNat : Int), .int .u8 (q.b.toNat : Int), .int .u8 (q.a.toNat : Int)] 68)) w7.heap.size (q.r.toNat : Int) (q.g.toNat : Int) (q.b.toNat : Int) (q.a.toNat : Int) := Blk.new _ _ _
        have I8 := I7.alloc (.cells #[.int .u8 (q.r.toNat : Int), .int .u8 (q.g.toNat : Int), .int .u8 (q.b.toNat : Int), .int .u8 (q.a.toNat : Int)] 68)
        generalize w7.alloc (.cells #[.int .u8 (q.r.toNat : Int), .int .u8 (q.g.toNat : Int), .int .u8 (q.b.toNat : Int), .int .u8 (q.a.toNat : Int)] 68) = w8 at I8 P8 ⊢
        generalize w7.heap.size = pc at P8 ⊢
        clear c0 c1 c2 c3 c4 c5 c6 c7 c8 c9 c10 c11 c12 c13 m1 RW b7 I7 HI
        have HI8 := Lib.hid I8
        clear I8
        have p0 := P8.c0
        have p1 := P8.c1
        have p2 := P8.c2
        have p3 := P8.c3
        rcases hway with ⟨hk0, hpe⟩ | ⟨hk0, hbz, hpe⟩
        ·have hkI : ¬ (k : Int) = 0 := by omega
         rw [hpe] at hin
         simp only at hin
         have hD9 := HZ2.out
         rw [← hin] at hD9
         have HZ3 : Hid (Sum.inl (k, i7) = rr) := Lib.hid hD9
         clear hin hpe hk0 hD9
         go_wp2_with (go_at_call 47; refine (refBadC _ _ _).mono ?_; rintro e wb ⟨rfl, bb⟩; have JB := HI8.out.below bb; obtain ⟨x0, x1, x2, x3, x4, zx0, zx1, zx2, zx3, zx4, xl⟩ := RI.all JB.A)
         exact bodyPost_ret (v := .agg #[.int .i64 0, .int .i64 0, .slice none 0 0, .int .i64 (k : Int), .int .i64 (i7 : Int)]) (by simp [results, Tryz.results74, go_sem, x0, x1, x2, x3, x4]) rfl (by
          have hD := HD.out
          rw [← HZ3.out] at hD
          rw [show D = DRes.bad k i7 from hD.symm]
          exact ⟨Below.st5 JB.B (by omega), rfl⟩)
        ·subst hk0
         rw [hpe] at hin
         simp only at hin
         have own4 := HI8.out.O.alloc (.cells #[.int .u8 (q.r.toNat : Int), .int .u8 (q.g.toNat : Int), .int .u8 (q.b.toNat : Int), .int .u8 (q.a.toNat : Int)] 68)
         have HII := Lib.hid hi
         clear hpe hi
         have hlt9 : K.length + [q].length < 1099511627776 := by rw [HK.out, HMM.out]; simp; omega
         have hbs8 : w.heap.size ≤ (w8.alloc (.cells #[.int .u8 (q.r.toNat : Int), .int .u8 (q.g.toNat : Int), .int .u8 (q.b.toNat : Int), .int .u8 (q.a.toNat : Int)] 68)).heap.size := by have := HI8.out.B.size; simp; omega
         go_upto_region 22 with (at_builtin; refine wpList_append_cols rfl (.tmp 83) (.tmp 85) rfl w.heap.size _ _ rfl own4 w8.heap.size 1 1 [q] rfl rfl (q_new w8 q) hlt9 hbs8 ?_; intro v9 w9 own9 hb9 hg9)
         have HI9 := Lib.hid (TvI.grow (HI8.out.alloc (.cells #[.int .u8 (q.r.toNat : Int), .int .u8 (q.g.toNat : Int), .int .u8 (q.b.toNat : Int), .int .u8 (q.a.toNat : Int)] 68)) own9 hb9 hg9)
         obtain ⟨a10, c10, hv10⟩ := own9.slice
         rw [show (K ++ [q]).length = mm + 1 by rw [List.length_append, HK.out]; rfl] at hv10
         subst hv10
         clear own9 hb9 hg9 own4 hlt9 hbs8 p0 p1 p2 p3 P8
         rw [HZ.out] at hin hbz
         cases sb with
         | false =>
          rw [if_pos (.inl rfl)] at hin
          have HN9 := Lib.hid hin
          clear hin
          go_wp2_with fail
          go_roundg gx
          case measure => omega
          case rel => exact ⟨i + 1, b + z, mm + 1, c10, a10, K ++ [q], rfl, by first | rfl | go_num, by go_num, by have := HII.out; omega, by rw [List.length_append, HK.out]; rfl, by rw [HMM.out]; rfl, by omega, HN9, HI9⟩
         | true =>
          by_cases hg0 : gx = 0
          ·have hlast : (i : Int) = (c : Int) - 1 := by have := HII.out; omega
           have hlb : ((i : Int) == (c : Int) - 1) = true := beq_iff_eq.2 hlast
           rw [if_pos (.inr hg0)] at hin
           have HN9 := Lib.hid hin
           clear hin hlast
           go_wp2_with fail
           go_roundg gx
           case measure => omega
           case rel => exact ⟨i + 1, b + z, mm + 1, c10, a10, K ++ [q], rfl, by first | rfl | go_num, by go_num, by have := HII.out; omega, by rw [List.length_append, HK.out]; rfl, by rw [HMM.out]; rfl, by omega, HN9, HI9⟩
          ·have hlb : ((i : Int) == (c : Int) - 1) = false := beq_eq_false_iff_ne.2 (by have := HII.out; omega)
           rw [if_neg (by simp [hg0])] at hin
           have HN9 := Lib.hid hin
           clear hin
           go_wp2_with fail
           go_roundg gx
           case measure => omega
           case rel => exact ⟨i + 1, b, mm + 1, c10, a10, K ++ [q], rfl, by first | rfl | go_num, by go_num, by have := HII.out; omega, by rw [List.length_append, HK.out]; rfl, by rw [HMM.out]; rfl, by omega, HN9, HI9⟩
       ·have hicI : ¬ (i : Int) < (c : Int) := by omega
        have hie : i = c := by omega
        obtain rfl : gk = 0 := by omega
        have hin := HIN.out
        unfold tgaInR at hin
        have hD9 := HZ2.out
        rw [← hin] at hD9
        simp only at hD9
        have HZ3 := Lib.hid hD9
        have hmE := HMM.out
        rw [hie] at hmE
        have HME := Lib.hid hmE
        have HIE := Lib.hid hie
        clear hin hD9 HIN hmE hie hic hi
        go_wp2_with fail
        go_roundg f
        case measure => omega
        case rel => exact ⟨b, mm, c9, a9, K, rfl, rfl, HK.out, by have := HME.out; omega, by have := HME.out; omega, hb, HZ3, HI⟩
    ·have hge : (s.size : Int) ≤ (a : Int) := by omega
     rw [if_neg hks] at hrun
     have HZ2 := Lib.hid hrun
     clear hrun hks hfull
     go_wp2_with (go_at_call 47; refine (refBadC _ _ _).mono ?_; rintro e wb ⟨rfl, bb⟩; have JB := HI.out.below bb; clear x0 x1 x2 x3 x4 zx0 zx1 zx2 zx3 zx4 xl; obtain ⟨x0, x1, x2, x3, x4, zx0, zx1, zx2, zx3, zx4, xl⟩ := RI.all JB.A)
     exact bodyPost_ret (v := .agg #[.int .i64 0, .int .i64 0, .slice none 0 0, .int .i64 1, .int .i64 (s.size : Int)]) (by simp [results, Tryz.results74, go_sem, x0, x1, x2, x3, x4]) rfl (by
      have hD := HD.out
      rw [← HZ2.out] at hD
      rw [show D = DRes.bad 1 s.size from hD.symm]
      exact ⟨Below.st5 JB.B (by omega), rfl⟩)
   ·have hT : ¬ (8 : Int) < (h.typ : Int) := by
     have := HKT.out
     unfold TgaKnown at this
     unfold TgaPacked at this hp
     omega
    rw [if_neg hp] at hrun
    simp only at hrun
    obtain ⟨r, hr⟩ : ∃ r, tgaInR s h M false 1 a L = r := ⟨_, rfl⟩
    rw [hr] at hrun
    have HR := Lib.hid hr
    have HZ2 := Lib.hid hrun
    have hmc : m + 1 ≤ N := by omega
    clear hrun hfull hr hp HRUN
    go_wp2_with fail
    go_loopg [8, 9, 13, 14, 15, 16] 1 (fun gh v8 v9 v13 v14 v15 v16 wx => ∃ (i b mm c9 : Nat) (a9 : Option Addr) (K : List Qc), v8 = .slice a9 mm c9 ∧ v9 = .int .i64 (b : Int) ∧ v13 = .int .i64 (i : Int) ∧ i + gh = 1 ∧ K.length = mm ∧ mm = m + i ∧ b ≤ s.size ∧ Hid (tgaInR s h M false gh b K = r) ∧ Hid (TvI w wx h mi (at0 : Int) (.slice va vn vc) v8 K))
    case atStart => exact ⟨0, a, m, ca, a8, L, rfl, rfl, rfl, by omega, HL.out, rfl, by omega, HR, HI⟩
    case round =>
     clear HI HR c0 c1 c2 c3 c4 c5 c6 c7 c8 c9 c10 c11 c12 c13 x0 x1 x2 x3 x4 zx0 zx1 zx2 zx3 zx4 xl
     obtain ⟨i, b, mm, c9, a9, K, rfl, rfl, rfl, hi, hK, hmm, hb, HIN, HI⟩ := hrel
     have HK := Lib.hid hK
     have HMM := Lib.hid hmm
     clear hK hmm
     by_cases hic : i < 1
     ·have hicI : (i : Int) < 1 := by omega
      obtain ⟨gx, rfl⟩ : ∃ m, gk = m + 1 := ⟨gk - 1, by omega⟩
      have hin := HIN.out
      unfold tgaInR at hin
      clear HIN
      obtain ⟨c0, c1, c2, c3, c4, c5, c6, c7, c8, c9, c10, c11, c12, c13⟩ := tvC HI.out.Hd
      have m1 : wr.cell? ⟨w.heap.size + 1, 1, none⟩ = some (.slice va vn vc) := Blk.cell HI.out.Mp 1
      have RW := HRM.out.below HI.out.B
      go_upto_region 19 with (go_at_call 129; refine (HPX.out _ b RW hb).mono ?_; rintro e w7 ⟨b7, q, k, i7, rfl, hway⟩; have I7 := HI.out.below b7)
      have P8 : CB (w7.alloc (.cells #[.int .u8 (q.r.toNat : Int), .int .u8 (q.g.toNat : Int), .int .u8 (q.b.toNat : Int), .int .u8 (q.a.toNat : Int)] 68)) w7.heap.size (q.r.toNat : Int) (q.g.toNat : Int) (q.b.toNat : Int) (q.a.toNat : Int) := Blk.new _ _ _
      have I8 := I7.alloc (.cells #[.int .u8 (q.r.toNat : Int), .int .u8 (q.g.toNat : Int), .int .u8 (q.b.toNat : Int), .int .u8 (q.a.toNat : Int)] 68)
      generalize w7.alloc (.cells #[.int .u8 (q.r.toNat : Int), .int .u8 (q.g.toNat : Int), .int .u8 (q.b.toNat : Int), .int .u8 (q.a.toNat : Int)] 68) = w8 at I8 P8 ⊢
      generalize w7.heap.size = pc at P8 ⊢
      clear c0 c1 c2 c3 c4 c5 c6 c7 c8 c9 c10 c11 c12 c13 m1 RW b7 I7 HI
      have HI8 := Lib.hid I8
      clear I8
      have p0 := P8.c0
      have p1 := P8.c1
      have p2 := P8.c2
      have p3 := P8.c3
      rcases hway with ⟨hk0, hpe⟩ | ⟨hk0, hbz, hpe⟩
      ·have hkI : ¬ (k : Int) = 0 := by omega
       rw [hpe] at hin
       simp only at hin
       have hD9 := HZ2.out
       rw [← hin] at hD9
       have HZ3 : Hid (Sum.inl (k, i7) = rr) := Lib.hid hD9
       clear hin hpe hk0 hD9
       go_wp2_with (go_at_call 47; refine (refBadC _ _ _).mono ?_; rintro e wb ⟨rfl, bb⟩; have JB := HI8.out.below bb; obtain ⟨x0, x1, x2, x3, x4, zx0, zx1, zx2, zx3, zx4, xl⟩ := RI.all JB.A)
       exact bodyPost_ret (v := .agg #[.int .i64 0, .int .i64 0, .slice none 0 0, .int .i64 (k : Int), .int .i64 (i7 : Int)]) (by simp [results, Tryz.results74, go_sem, x0, x1, x2, x3, x4]) rfl (by
        have hD := HD.out
        rw [← HZ3.out] at hD
        rw [show D = DRes.bad k i7 from hD.symm]
        exact ⟨Below.st5 JB.B (by omega), rfl⟩)
      ·subst hk0
       rw [hpe] at hin
       simp only at hin
       have own4 := HI8.out.O.alloc (.cells #[.int .u8 (q.r.toNat : Int), .int .u8 (q.g.toNat : Int), .int .u8 (q.b.toNat : Int), .int .u8 (q.a.toNat : Int)] 68)
       have HII := Lib.hid hi
       clear hpe hi
       have hlt9 : K.length + [q].length < 1099511627776 := by rw [HK.out, HMM.out]; simp; omega
       have hbs8 : w.heap.size ≤ (w8.alloc (.cells #[.int .u8 (q.r.toNat : Int), .int .u8 (q.g.toNat : Int), .int .u8 (q.b.toNat : Int), .int .u8 (q.a.toNat : Int)] 68)).heap.size := by have := HI8.out.B.size; simp; omega
       go_upto_region 22 with (at_builtin; refine wpList_append_cols rfl (.tmp 83) (.tmp 85) rfl w.heap.size _ _ rfl own4 w8.heap.size 1 1 [q] rfl rfl (q_new w8 q) hlt9 hbs8 ?_; intro v9 w9 own9 hb9 hg9)
       have HI9 := Lib.hid (TvI.grow (HI8.out.alloc (.cells #[.int .u8 (q.r.toNat : Int), .int .u8 (q.g.toNat : Int), .int .u8 (q.b.toNat : Int), .int .u8 (q.a.toNat : Int)] 68)) own9 hb9 hg9)
       obtain ⟨a10, c10, hv10⟩ := own9.slice
       rw [show (K ++ [q]).length = mm + 1 by rw [List.length_append, HK.out]; rfl] at hv10
       subst hv10
       clear own9 hb9 hg9 own4 hlt9 hbs8 p0 p1 p2 p3 P8
       rw [HZ.out] at hin hbz
       rw [if_pos (.inl trivial)] at hin
       have HN9 := Lib.hid hin
       clear hin
       go_wp2_with fail
       go_roundg gx
       case measure => omega
       case rel => exact ⟨i + 1, b + z, mm + 1, c10, a10, K ++ [q], rfl, by first | rfl | go_num, by go_num, by have := HII.out; omega, by rw [List.length_append, HK.out]; rfl, by rw [HMM.out]; rfl, by omega, HN9, HI9⟩
     ·have hicI : ¬ (i : Int) < 1 := by omega
      have hie : i = 1 := by omega
      obtain rfl : gk = 0 := by omega
      have hin := HIN.out
      unfold tgaInR at hin
      have hD9 := HZ2.out
      rw [← hin] at hD9
      simp only at hD9
      have HZ3 := Lib.hid hD9
      have hmE := HMM.out
      rw [hie] at hmE
      have HME := Lib.hid hmE
      have HIE := Lib.hid hie
      clear hin hD9 HIN hmE hie hic hi
      go_wp2_with fail
      go_roundg f
      case measure => omega
      case rel => exact ⟨b, mm, c9, a9, K, rfl, rfl, HK.out, by have := HME.out; omega, by have := HME.out; omega, hb, HZ3, HI⟩
end Go.Proofs.YtlehkgkomjojmaaGreat
