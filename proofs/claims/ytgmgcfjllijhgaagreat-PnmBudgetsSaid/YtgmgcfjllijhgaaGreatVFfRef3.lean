/- The document's Be and Bad. The document's check of a farbfeld head, and Sides. The document's Sides of a farbfeld file. The document's Decode of a farbfeld file. -/
import Derived.Test.YtgmgcfjllijhgaaGreatVPnmHead
import Derived.Test.YtgmgcfjllijhgaaGreatVWays
import Derived.Test.YtgmgcfjllijhgaaGreatVRasWays
import Derived.Test.YtgmgcfjllijhgaaGreatVRasBytes
import Derived.Test.YtgmgcfjllijhgaaGreatVPnmE
namespace Go.Proofs.YtgmgcfjllijhgaaGreat
open Go.RowKit
set_option linter.unusedVariables false
set_option linter.unusedSimpArgs false

set_option maxRecDepth 100000 in
theorem refBeC (x : ByteArray) (hx : x.size ≤ 4) (w : World) : Calls Tryz.prog 72 #[.string x] w fun e w' => e = .returned (.int .i64 (beN x 0 x.size : Int)) ∧ w = w' := by
 go_enter Tryz.func72, Tryz.ntmps72
 go_wp2_with fail
 go_loopg [3, 4] x.size (fun m v k wr => ∃ j : Nat, j + m = x.size ∧ v = .int .i64 (beN x 0 j : Int) ∧ k = .int .i64 (j : Int) ∧ w = wr)
 case atStart => exact ⟨0, by omega, rfl, rfl, rfl⟩
 case round =>
  obtain ⟨j, hj, rfl, rfl, rfl⟩ := hrel
  by_cases hlt : j < x.size
  ·have hltI : (j : Int) < (x.size : Int) := by omega
   have hb := beN_lt x 0 j
   have hp : 256 ^ j ≤ 256 ^ 3 := Nat.pow_le_pow_right (by omega) (by omega)
   have hbat := bat_eq (s := x) (i := j) hlt
   have hc := bat_lt x j
   rw [hbat] at hc
   have hv := Lib.hid (show (256 * (beN x 0 j : Int) + ((x[j].toNat : Nat) : Int)) = (beN x 0 (j + 1) : Int) by rw [beN, Nat.zero_add, hbat]; omega)
   obtain ⟨t, ht⟩ : ∃ t, beN x 0 j = t := ⟨_, rfl⟩
   rw [ht] at hv ⊢
   have hbI : (t : Int) < 16777216 := by omega
   have hcI : ((x[j].toNat : Nat) : Int) < 256 := by omega
   clear hb hp hbat hc ht
   go_wp2_with fail
   go_roundg (x.size - (j + 1))
   case measure => omega
   case rel => exact ⟨j + 1, by omega, vint hv.out, by go_num, rfl⟩
  ·obtain rfl : j = x.size := by omega
   have hltI : ¬ (x.size : Int) < (x.size : Int) := by omega
   go_wp2_with fail
   go_ret
   exact ⟨rfl, rfl⟩
theorem refBe_at {s : ByteArray} {a n v : Nat} (h : a + n ≤ s.size) (hn : n ≤ 4) (hv : beN s a n = v) (w : World) : Calls Tryz.prog 72 #[.string (s.extract a (a + n))] w fun e w' => e = .returned (.int .i64 (v : Int)) ∧ w = w' := by
 have e := extract_size s a n h
 have := refBeC (s.extract a (a + n)) (by omega) w
 rw [e, beN_extract s a n n (Nat.le_refl _), hv] at this
 exact this
theorem refBadC (k a : Int) (w : World) : Calls Tryz.prog 32 #[.int .i64 k, .int .i64 a] w fun e w' => e = .returned (.agg #[.int .i64 0, .int .i64 0, .slice none 0 0, .int .i64 k, .int .i64 a]) ∧ Below w.heap.size w w' := by
 go_enter Tryz.func32, Tryz.ntmps32
 go_wp2_with fail
 exact bodyPost_ret (v := .agg #[.int .i64 0, .int .i64 0, .slice none 0 0, .int .i64 k, .int .i64 a]) (by simp [results, Tryz.results32, go_sem]) rfl ⟨rfl, (Below.refl _ _).alloc (Nat.le_refl _) _⟩
/-- the box of a document's image -/
def ri5 (W H : Int) (v : Value) (k a : Int) : Array Value := #[.int .i64 W, .int .i64 H, v, .int .i64 k, .int .i64 a]
def RI (w : World) (b : Nat) (W H : Int) (v : Value) (k a : Int) : Prop := Blk w b 28 (ri5 W H v k a)
def st5 (w : World) (b : Nat) (u0 u1 u2 u3 u4 : Value) : World := ((((w.setCell ⟨b, 0, none⟩ u0).setCell ⟨b, 1, none⟩ u1).setCell ⟨b, 2, none⟩ u2).setCell ⟨b, 3, none⟩ u3).setCell ⟨b, 4, none⟩ u4
section
variable {w w' a : World} {b g : Nat} {W H W' H' k i k' i' : Int} {t : TypeId} {cs : Array Value} {v v' u0 u1 u2 u3 u4 : Value} {S : List Nat} {B : Nat}
theorem RI.new (w : World) : RI (w.alloc (.cells #[.int .i64 0, .int .i64 0, .slice none 0 0, .int .i64 0, .int .i64 0] 28)) w.heap.size 0 0 (.slice none 0 0) 0 0 := Blk.new _ _ _
theorem RI.st5 (h : RI w b W H v k i) : RI (st5 w b (.int .i64 W') (.int .i64 H') v' (.int .i64 k') (.int .i64 i')) b W' H' v' k' i' := ((Blk.set_ (Blk.set_ (Blk.set_ (Blk.set_ (Blk.set_ h 0 _) 1 _) 2 _) 3 _) 4 _)).eq_ (by simp [ri5])
theorem RI.all (h : RI w b W H v k i) : w.cell? ⟨b, 0, none⟩ = some (.int .i64 W) ∧ w.cell? ⟨b, 1, none⟩ = some (.int .i64 H) ∧ w.cell? ⟨b, 2, none⟩ = some v ∧ w.cell? ⟨b, 3, none⟩ = some (.int .i64 k) ∧ w.cell? ⟨b, 4, none⟩ = some (.int .i64 i) ∧ w.frozen? ⟨b, 0, none⟩ = false ∧ w.frozen? ⟨b, 1, none⟩ = false ∧ w.frozen? ⟨b, 2, none⟩ = false ∧ w.frozen? ⟨b, 3, none⟩ = false ∧ w.frozen? ⟨b, 4, none⟩ = false ∧ b < w.heap.size :=
 ⟨Blk.cell h 0, Blk.cell h 1, Blk.cell h 2, Blk.cell h 3, Blk.cell h 4, Blk.frozen h 0, Blk.frozen h 1, Blk.frozen h 2, Blk.frozen h 3, Blk.frozen h 4, Blk.lt h⟩
theorem Blk.st5 (h : Blk w g t cs) (hb : g ≠ b) : Blk (st5 w b u0 u1 u2 u3 u4) g t cs := Blk.far (Blk.far (Blk.far (Blk.far (Blk.far h (p := ⟨b, 0, none⟩) hb _) (p := ⟨b, 1, none⟩) hb _) (p := ⟨b, 2, none⟩) hb _) (p := ⟨b, 3, none⟩) hb _) (p := ⟨b, 4, none⟩) hb _
theorem Below.st5 (h : Below B a w) (hb : B ≤ b) : Below B a (st5 w b u0 u1 u2 u3 u4) := below_set (below_set (below_set (below_set (below_set h hb) hb) hb) hb) hb
end
end Go.Proofs.YtgmgcfjllijhgaaGreat
namespace Go.Proofs.YtgmgcfjllijhgaaGreat
open Go.RowKit
set_option linter.unusedVariables false
set_option linter.unusedSimpArgs false

end Go.Proofs.YtgmgcfjllijhgaaGreat
namespace Go.Proofs.YtgmgcfjllijhgaaGreat
open Go.RowKit
set_option linter.unusedVariables false
set_option linter.unusedSimpArgs false

end Go.Proofs.YtgmgcfjllijhgaaGreat
namespace Go.Proofs.YtgmgcfjllijhgaaGreat
open Go.RowKit
set_option linter.unusedVariables false
set_option linter.unusedSimpArgs false

/-- append(v, a row of colours...): one operation -/
theorem oper_append_cols {o : Oper} {a : Act} {w : World} {K : Act → World → Prop} {Q : Exit → Act → World → Prop}
  (s x : Operand) (ho : o.op = .call { callee := .builtin .append, args := #[s, x], argTypes := #[26, 26] })
  (base : Nat) (v : Value) (L : List Qc) (hs : a.eval s = v) (hown : OwnsQ w base v L)
  (g n c : Nat) (M : List Qc) (hn : n = M.length) (hx : a.eval x = .slice (some ⟨g, 0, none⟩) n c) (hM : QAt w g 0 M)
  (hlen : L.length + M.length < 1099511627776) (hbase : base ≤ w.heap.size)
  (h : ∀ v' w', OwnsQ w' base v' (L ++ M) → Below base w w' → w.grownBy w' v.ownBlock → K (a.put o.dst v') w') : Oper.wp Tryz.prog o a w K Q := by
 obtain ⟨i0, hi, hz0, hzs, hzb⟩ := info_parts infoQ
 subst hn
 obtain ⟨v', w', hr, h2, h3, h4⟩ := run_append_own (P := Tryz.prog) w base 26 o.type 59 i0 _ 4 4 Tryz.underlying26 hi hz0 hzs hzb rfl (by decide) v L.length (cq L) hown ⟨g, 0, none⟩ M.length c (cq M) (cq_len M) (by
  intro j u hj
  have hjl : j < (cq M).length := (List.getElem?_eq_some_iff.1 hj).1
  rw [cq_len] at hjl
  obtain ⟨qq, hq⟩ : ∃ qq, M[j / 4]? = some qq := ⟨_, List.getElem?_eq_getElem (show j / 4 < M.length by omega)⟩
  have e := hM (j / 4) _ hq
  have ej : j / 4 * 4 + j % 4 = j := by omega
  have hc := cq_at M (j / 4) (j % 4) _ hq (by omega)
  rw [ej, hj] at hc
  rw [show (⟨g, 0, none⟩ : Addr).add j = ⟨g, j, none⟩ by unfold Addr.add; split <;> simp_all]
  rw [Nat.zero_add] at e
  have h4 : j % 4 < 4 := by omega
  generalize j % 4 = r at h4 ej hc
  rw [hc, ← ej]
  match r, h4 with
  | 0, _ => exact e.1
  | 1, _ => exact e.2.1
  | 2, _ => exact e.2.2.1
  | 3, _ => exact e.2.2.2) (fun u hu => cq_one_cell hu) (by unfold maxLen; omega) (by omega) hbase
 unfold Oper.wp
 simp only [execOp, ho, resolve, invoke, builtin, Sem.run_bind, Sem.run_pure, Result.andThen_ok, List.map_toArray, List.map_cons, List.map_nil, hs, hx, hr]
 refine h v' w' ?_ ((Below.refl _ _).grown h3 hbase fun k hk => (World.ownsRow.lt hown k hk).1) h3
 show World.ownsRow _ _ _ _ _ _ _
 rw [List.length_append, cq_append]
 exact h2
/-- what the document tells of a file -/
def RefPost (d : DRes) (w w' : World) (e : Ending) : Prop :=
 Below w.heap.size w w' ∧ match d with
  | .bad k a => e = .returned (.agg #[.int .i64 0, .int .i64 0, .slice none 0 0, .int .i64 (k : Int), .int .i64 (a : Int)])
  | .img W H l => ∃ v L, e = .returned (.agg #[.int .i64 (W : Int), .int .i64 (H : Int), v, .int .i64 0, .int .i64 0]) ∧ OwnsQ w' w.heap.size v L ∧ flat L = l ∧ L.length = W * H
/-- what holds at each pixel -/
structure RefP (w0 w : World) (b2 b4 W H k : Nat) (v : Value) (L : List Qc) (s : ByteArray) : Prop where
 A : RI w b2 0 0 (.slice none 0 0) 0 0
 X : RI w b4 (W : Int) (H : Int) v 0 0
 O : OwnsQ w w0.heap.size v L
 F : flat L = ffBytes s k
 N : L.length = k
 B : Below w0.heap.size w0 w
theorem OwnsQ.farRI {w : World} {base b i : Nat} {v v' u : Value} {L : List Qc} {W H k a : Int} (o : OwnsQ w base v L) (h : RI w b W H v' k a) : OwnsQ (w.setCell ⟨b, i, none⟩ u) base v L :=
 o.turn (S := [b]) ((Turn.refl _ _).set_ i u (by simp)) (fun j hj => by rw [List.mem_singleton] at hj; subst hj; exact ⟨_, _, h, by decide⟩)
theorem OwnsQ.st5RI {w : World} {base b : Nat} {v v' u0 u1 u2 u3 u4 : Value} {L : List Qc} {W H k a : Int} (o : OwnsQ w base v L) (h : RI w b W H v' k a) : OwnsQ (st5 w b u0 u1 u2 u3 u4) base v L :=
 o.turn (S := [b]) (((((Turn.refl _ _).set_ 0 u0 (by simp)).set_ 1 u1 (by simp)).set_ 2 u2 (by simp)).set_ 3 u3 (by simp) |>.set_ 4 u4 (by simp)) (fun j hj => by rw [List.mem_singleton] at hj; subst hj; exact ⟨_, _, h, by decide⟩)
theorem RefP.below {w0 w w' : World} {b2 b4 W H k : Nat} {v : Value} {L : List Qc} {s : ByteArray} (P : RefP w0 w b2 b4 W H k v L s) (b : Below w.heap.size w w') : RefP w0 w' b2 b4 W H k v L s :=
 ⟨Blk.below P.A b (Blk.lt P.A), Blk.below P.X b (Blk.lt P.X), P.O.below b, P.F, P.N, below_next P.B b⟩
end Go.Proofs.YtgmgcfjllijhgaaGreat
