/- The document's Decode of a farbfeld file. -/
import Derived.Test.YtgmgcfjllijhgaaGreatFfRef
import Derived.Test.YtgmgcfjllijhgaaGreatFfD
import Derived.Test.YtgmgcfjllijhgaaGreatCols
import Derived.Test.YtgmgcfjllijhgaaGreatRasBytes
import Derived.Test.YtgmgcfjllijhgaaGreatScale
namespace Go.Proofs.YtgmgcfjllijhgaaGreat
open Go.RowKit
set_option linter.unusedVariables false
set_option linter.unusedSimpArgs false

/-- append(v, a row of colours...): one operation -/
theorem oper_append_cols {o : Oper} {a : Act} {w : World} {K : Act → World → Prop} {Q : Exit → Act → World → Prop}
    (s x : Operand) (ho : o.op = .call { callee := .builtin .append, args := #[s, x], argTypes := #[26, 26] })
    (base : Nat) (v : Value) (L : List Qc) (hs : a.eval s = v) (hown : OwnsQ w base v L)
    (g n c : Nat) (M : List Qc) (hn : n = M.length) (hx : a.eval x = .slice (some ⟨g, 0, none⟩) n c) (hM : QAt w g 0 M)
    (hlen : L.length + M.length < 1099511627776) (hbase : base ≤ w.heap.size)
    (h : ∀ v' w', OwnsQ w' base v' (L ++ M) → Below base w w' → w.grownBy w' v.ownBlock → K (a.put o.dst v') w') : Oper.wp Tryz.prog o a w K Q := by
  obtain ⟨i0, hi, hz0, hzs, hzb⟩ := info_parts infoQ
  subst hn
  obtain ⟨v', w', hr, h2, h3, h4⟩ := run_append_own (P := Tryz.prog) w base 26 o.type 59 i0 _ 4 4 Tryz.underlying26 hi hz0 hzs hzb rfl (by decide) v L.length (cq L) hown ⟨g, 0, none⟩ M.length c (cq M) (cq_len M) (by
    intro j u hj
    have hjl : j < (cq M).length := (List.getElem?_eq_some_iff.1 hj).1
    rw [cq_len] at hjl
    obtain ⟨qq, hq⟩ : ∃ qq, M[j / 4]? = some qq := ⟨_, List.getElem?_eq_getElem (show j / 4 < M.length by omega)⟩
    have e := hM (j / 4) _ hq
    have ej : j / 4 * 4 + j % 4 = j := by omega
    have hc := cq_at M (j / 4) (j % 4) _ hq (by omega)
    rw [ej, hj] at hc
    rw [show (⟨g, 0, none⟩ : Addr).add j = ⟨g, j, none⟩ by unfold Addr.add; split <;> simp_all]
    rw [Nat.zero_add] at e
    have h4 : j % 4 < 4 := by omega
    generalize j % 4 = r at h4 ej hc
    rw [hc, ← ej]
    match r, h4 with
    | 0, _ => exact e.1
    | 1, _ => exact e.2.1
    | 2, _ => exact e.2.2.1
    | 3, _ => exact e.2.2.2) (fun u hu => cq_one_cell hu) (by unfold maxLen; omega) (by omega) hbase
  unfold Oper.wp
  simp only [execOp, ho, resolve, invoke, builtin, Sem.run_bind, Sem.run_pure, Result.andThen_ok, List.map_toArray, List.map_cons, List.map_nil, hs, hx, hr]
  refine h v' w' ?_ ((Below.refl _ _).grown h3 hbase fun k hk => (World.ownsRow.lt hown k hk).1) h3
  show World.ownsRow _ _ _ _ _ _ _
  rw [List.length_append, cq_append]
  exact h2
/-- what the document tells of a file -/
def RefPost (d : DRes) (w w' : World) (e : Ending) : Prop :=
  Below w.heap.size w w' ∧ match d with
    | .bad k a => e = .returned (.agg #[.int .i64 0, .int .i64 0, .slice none 0 0, .int .i64 (k : Int), .int .i64 (a : Int)])
    | .img W H l => ∃ v L, e = .returned (.agg #[.int .i64 (W : Int), .int .i64 (H : Int), v, .int .i64 0, .int .i64 0]) ∧ OwnsQ w' w.heap.size v L ∧ flat L = l ∧ L.length = W * H
theorem ffPix_told_no {s : ByteArray} {W H z n k : Nat} (h : ¬ 16 + 8 * k + 8 ≤ s.size) : (ffPix s W H z (n + 1) k).told = .bad 1 s.size := by
  unfold ffPix Dec.told
  rw [if_neg h]
  rfl
theorem ffPix_told_yes {s : ByteArray} {W H z n k : Nat} (h : 16 + 8 * k + 8 ≤ s.size) : (ffPix s W H z (n + 1) k).told = (ffPix s W H z n (k + 1)).told := by
  rw [ffPix, Dec.told, if_pos h, Dec.told]
/-- the colour of a pixel -/
def ffC (s : ByteArray) (k : Nat) : Qc := ⟨ffU s (16 + 8 * k), ffU s (16 + 8 * k + 2), ffU s (16 + 8 * k + 4), ffU s (16 + 8 * k + 6)⟩
theorem refMaxAt {s : ByteArray} {a : Nat} {u : UInt8} (hu : ffU s a = u) (w : World) : Calls Tryz.prog 34 #[.int .i64 (beN s a 2 : Int), .int .i64 65535] w fun e w' => e = .returned (.int .i64 (u.toNat : Int)) ∧ w = w' := by
  have hl := beN_lt s a 2
  have h := refMax_any (beN s a 2 : Int) 65535 w (smay_iff.2 ⟨by omega, by omega, by omega, by omega⟩)
  rw [← ffU_int, hu] at h
  exact h
theorem ffC_list (s : ByteArray) (k : Nat) : (ffC s k).list = ffQ s k := rfl
theorem flat_snoc {L : List Qc} {s : ByteArray} {k : Nat} (h : flat L = ffBytes s k) : flat (L ++ [ffC s k]) = ffBytes s (k + 1) := by
  rw [flat_append, h, ffBytes]
  simp [flat, ffC_list]
/-- what holds at each pixel -/
structure RefP (w0 w : World) (b2 b4 W H k : Nat) (v : Value) (L : List Qc) (s : ByteArray) : Prop where
  A : RI w b2 0 0 (.slice none 0 0) 0 0
  X : RI w b4 (W : Int) (H : Int) v 0 0
  O : OwnsQ w w0.heap.size v L
  F : flat L = ffBytes s k
  N : L.length = k
  B : Below w0.heap.size w0 w
theorem OwnsQ.farRI {w : World} {base b i : Nat} {v v' u : Value} {L : List Qc} {W H k a : Int} (o : OwnsQ w base v L) (h : RI w b W H v' k a) : OwnsQ (w.setCell ⟨b, i, none⟩ u) base v L :=
  o.turn (S := [b]) ((Turn.refl _ _).set_ i u (by simp)) (fun j hj => by rw [List.mem_singleton] at hj; subst hj; exact ⟨_, _, h, by decide⟩)
theorem OwnsQ.st5RI {w : World} {base b : Nat} {v v' u0 u1 u2 u3 u4 : Value} {L : List Qc} {W H k a : Int} (o : OwnsQ w base v L) (h : RI w b W H v' k a) : OwnsQ (st5 w b u0 u1 u2 u3 u4) base v L :=
  o.turn (S := [b]) (((((Turn.refl _ _).set_ 0 u0 (by simp)).set_ 1 u1 (by simp)).set_ 2 u2 (by simp)).set_ 3 u3 (by simp) |>.set_ 4 u4 (by simp)) (fun j hj => by rw [List.mem_singleton] at hj; subst hj; exact ⟨_, _, h, by decide⟩)
theorem Blk.grown8 {w w' : World} {base k : Nat} {t : TypeId} {cs : Array Value} {v : Value} {l : List UInt8} (h : Blk w k t cs) (o : Owns8 w base v l) (ht : t ≠ 5) (hg : w.grownBy w' v.ownBlock) : Blk w' k t cs :=
  h.grown hg (fun e => by
    rcases o.2 with ⟨rfl, _⟩ | ⟨r, cap, cur, rfl, _, hr, _⟩
    · cases e
    · have hk : k = r := by simpa [Value.ownBlock] using e
      subst hk
      exact Blk.ne_ h hr ht rfl)
theorem OwnsQ.grown8 {w w' : World} {base base' : Nat} {v u : Value} {L : List Qc} {l : List UInt8} (h : OwnsQ w base v L) (o : Owns8 w base' u l) (hg : w.grownBy w' u.ownBlock) : OwnsQ w' base v L :=
  h.kept hg (by
    rcases h.2 with ⟨rfl, _⟩ | ⟨r, cap, cur, rfl, _, hr, _⟩
    · exact .inl rfl
    · refine .inr fun e => ?_
      rcases o.2 with ⟨rfl, _⟩ | ⟨r', cap', cur', rfl, _, hr', _⟩
      · cases e
      · have hk : r = r' := by simpa [Value.ownBlock] using e
        subst hk
        exact absurd rfl (Blk.ne_ hr hr' (by decide)))
theorem RefP.below {w0 w w' : World} {b2 b4 W H k : Nat} {v : Value} {L : List Qc} {s : ByteArray} (P : RefP w0 w b2 b4 W H k v L s) (b : Below w.heap.size w w') : RefP w0 w' b2 b4 W H k v L s :=
  ⟨Blk.below P.A b (Blk.lt P.A), Blk.below P.X b (Blk.lt P.X), P.O.below b, P.F, P.N, below_next P.B b⟩
theorem RefP.grow8 {w0 w w' : World} {b2 b4 W H k base : Nat} {v u : Value} {L : List Qc} {l : List UInt8} {s : ByteArray} (P : RefP w0 w b2 b4 W H k v L s) (o : Owns8 w base u l) (hg : w.grownBy w' u.ownBlock) (hb : Below w0.heap.size w w') : RefP w0 w' b2 b4 W H k v L s :=
  ⟨Blk.grown8 P.A o (by decide) hg, Blk.grown8 P.X o (by decide) hg, P.O.grown8 o hg, P.F, P.N, P.B.trans hb⟩
theorem Owns8.form4 {w : World} {base : Nat} {v : Value} {u0 u1 u2 u3 : UInt8} (o : Owns8 w base v [u0, u1, u2, u3]) : ∃ g cap cur, v = .slice (some ⟨g, 0, none⟩) 4 cap ∧ 4 ≤ cap ∧ base ≤ g ∧ Blk w g 5 cur ∧ cur[0]? = some (.int .u8 (u0.toNat : Int)) ∧ cur[1]? = some (.int .u8 (u1.toNat : Int)) ∧ cur[2]? = some (.int .u8 (u2.toNat : Int)) ∧ cur[3]? = some (.int .u8 (u3.toNat : Int)) := by
  rcases o.2 with ⟨_, h⟩ | ⟨g, cap, cur, rfl, hb, hg, hc, hm, hs, ht⟩
  · simp at h
  · have key : ∀ j, j < 4 → cur[j]? = (C8 [u0, u1, u2, u3])[j]? := fun j hj => by
      rw [← Array.getElem?_toList, ← ht, List.getElem?_take_of_lt (by simpa using hj)]
    exact ⟨g, cap, cur, rfl, hc, hb, hg, key 0 (by omega), key 1 (by omega), key 2 (by omega), key 3 (by omega)⟩
end Go.Proofs.YtgmgcfjllijhgaaGreat
