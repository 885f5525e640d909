/- Colours; rows of colours in memory. -/
import Derived.Test.YtgmgcfjllijhgaaGreatSync
import Derived.Deep.OwnRows
namespace Go.Proofs.YtgmgcfjllijhgaaGreat
open Go.RowKit
set_option linter.unusedVariables false
set_option linter.unusedSimpArgs false

structure Qc where
  r : UInt8
  g : UInt8
  b : UInt8
  a : UInt8
deriving DecidableEq
def Qc.list (q : Qc) : List UInt8 := [q.r, q.g, q.b, q.a]
def Qc.v (q : Qc) : Value := .agg #[.int .u8 (q.r.toNat : Int), .int .u8 (q.g.toNat : Int), .int .u8 (q.b.toNat : Int), .int .u8 (q.a.toNat : Int)]
def flat (L : List Qc) : List UInt8 := (L.map Qc.list).flatten
theorem flat_len (L : List Qc) : (flat L).length = 4 * L.length := by
  induction L with
  | nil => rfl
  | cons q L ih =>
    simp only [flat, List.map_cons, List.flatten_cons, List.length_append, List.length_cons] at ih ⊢
    rw [ih]
    simp [Qc.list]
    omega
theorem flat_append (L M : List Qc) : flat (L ++ M) = flat L ++ flat M := by simp [flat]
theorem flat_at (L : List Qc) (i : Nat) (q : Qc) (h : L[i]? = some q) (m : List UInt8) : ((flat L ++ m).drop (4 * i)).take 4 = q.list := by
  induction L generalizing i with
  | nil => simp at h
  | cons x L ih =>
    have e : flat (x :: L) = x.list ++ flat L := by simp [flat]
    cases i with
    | zero =>
      have hx : x = q := by simpa using h
      subst hx
      rw [e, Nat.mul_zero, List.drop_zero]
      simp [Qc.list]
    | succ i =>
      have e4 : 4 * (i + 1) = x.list.length + 4 * i := by simp [Qc.list]; omega
      rw [e, List.append_assoc, e4, ← List.drop_drop, List.drop_left]
      exact ih i (by simpa using h)
def Qc.cells (q : Qc) : List Value := [.int .u8 (q.r.toNat : Int), .int .u8 (q.g.toNat : Int), .int .u8 (q.b.toNat : Int), .int .u8 (q.a.toNat : Int)]
def cq (L : List Qc) : List Value := (L.map Qc.cells).flatten
theorem cq_len (L : List Qc) : (cq L).length = L.length * 4 := by
  induction L with
  | nil => rfl
  | cons q L ih =>
    simp only [cq, List.map_cons, List.flatten_cons, List.length_append, List.length_cons] at ih ⊢
    rw [ih]
    simp [Qc.cells]
    omega
theorem cq_append (L M : List Qc) : cq (L ++ M) = cq L ++ cq M := by simp [cq]
theorem cq_one (q : Qc) : cq [q] = q.cells := by simp [cq]
theorem cq_at (L : List Qc) (i j : Nat) (q : Qc) (h : L[i]? = some q) (hj : j < 4) : (cq L)[i * 4 + j]? = q.cells[j]? := by
  induction L generalizing i with
  | nil => simp at h
  | cons x L ih =>
    have e : cq (x :: L) = x.cells ++ cq L := by simp [cq]
    have hx4 : x.cells.length = 4 := rfl
    cases i with
    | zero =>
      have hx : x = q := by simpa using h
      subst hx
      rw [e, Nat.zero_mul, Nat.zero_add, List.getElem?_append_left (by omega)]
    | succ i =>
      rw [e, List.getElem?_append_right (by omega), hx4, show (i + 1) * 4 + j - 4 = i * 4 + j by omega]
      exact ih i (by simpa using h)
theorem cq_one_cell {L : List Qc} {u : Value} (h : u ∈ cq L) : u.oneCell' = true := by
  simp only [cq, List.mem_flatten, List.mem_map] at h
  obtain ⟨l, ⟨q, _, rfl⟩, hu⟩ := h
  simp only [Qc.cells, List.mem_cons, List.not_mem_nil, or_false] at hu
  rcases hu with rfl | rfl | rfl | rfl <;> rfl
def OwnsQ (w : World) (base : Nat) (v : Value) (L : List Qc) : Prop := w.ownsRow base 59 4 v L.length (cq L)
/-- four cells a colour, from an address on -/
def QAt (w : World) (b off : Nat) (L : List Qc) : Prop := ∀ i q, L[i]? = some q → w.cell? ⟨b, off + i * 4, none⟩ = some (.int .u8 (q.r.toNat : Int)) ∧ w.cell? ⟨b, off + i * 4 + 1, none⟩ = some (.int .u8 (q.g.toNat : Int)) ∧ w.cell? ⟨b, off + i * 4 + 2, none⟩ = some (.int .u8 (q.b.toNat : Int)) ∧ w.cell? ⟨b, off + i * 4 + 3, none⟩ = some (.int .u8 (q.a.toNat : Int))
section
variable {w w' : World} {base : Nat} {v : Value} {L : List Qc}
theorem OwnsQ.alloc (h : OwnsQ w base v L) (o : Obj) : OwnsQ (w.alloc o) base v L := World.ownsRow.alloc h o
theorem OwnsQ.kept {row : Option Nat} (h : OwnsQ w base v L) (hg : w.grownBy w' row) (hne : v.ownBlock = none ∨ v.ownBlock ≠ row) : OwnsQ w' base v L := World.ownsRow.kept h hg hne
theorem OwnsQ.below (h : OwnsQ w base v L) (hb : Below w.heap.size w w') : OwnsQ w' base v L :=
  h.kept (row := none) ⟨hb.os, hb.tape, hb.output, hb.size, fun i hi _ => hb.block i hi⟩ (by cases v.ownBlock <;> simp)
theorem OwnsQ.turn {S : List Nat} (o : OwnsQ w base v L) (k : Turn S w w') (hS : ∀ i ∈ S, ∃ t cs, Blk w i t cs ∧ t ≠ 59) : OwnsQ w' base v L := by
  refine ⟨o.1, ?_⟩
  rcases o.2 with h | ⟨r, cap, cur, hv, hb, hr, h4, h5, h6, h7⟩
  · exact .inl h
  · refine .inr ⟨r, cap, cur, hv, hb, ?_, h4, h5, h6, h7⟩
    exact Blk.turn hr k (fun hm => by obtain ⟨t, cs, hbk, hn⟩ := hS r hm; exact Blk.ne_ hbk hr hn rfl)
theorem OwnsQ.form (h : OwnsQ w base v L) : (v = .slice none 0 0 ∧ L = []) ∨ ∃ g cap, v = .slice (some ⟨g, 0, none⟩) L.length cap ∧ base ≤ g ∧ g < w.heap.size ∧ L.length ≤ cap ∧ QAt w g 0 L := by
  rcases h.2 with ⟨rfl, hn⟩ | ⟨g, cap, cur, rfl, hb, hg, hc, hm, hs, ht⟩
  · exact .inl ⟨rfl, List.eq_nil_of_length_eq_zero hn⟩
  · refine .inr ⟨g, cap, rfl, hb, (World.ownsRow.lt h g rfl).2, hc, fun i q hi => ?_⟩
    have hil := (List.getElem?_eq_some_iff.1 hi).1
    have key : ∀ j, j < 4 → w.cell? ⟨g, i * 4 + j, none⟩ = q.cells[j]? := fun j hj => by
      rw [cell_of_row w g (i * 4 + j) cur _ (0, 0) hg, ← Array.getElem?_toList, ← cq_at L i j q hi hj, ← ht, List.getElem?_take_of_lt (by omega)]
    rw [Nat.zero_add]
    exact ⟨key 0 (by omega), key 1 (by omega), key 2 (by omega), key 3 (by omega)⟩
end
theorem infoQ : (Tryz.prog.info? 59).map (fun i => (i.zero, i.size, i.bytes)) = some (some (.agg #[.int .u8 0, .int .u8 0, .int .u8 0, .int .u8 0]), 4, 4) := by kernel_rfl
/-- append of colours that lie in memory -/
theorem wpList_append_cols {ops : Array Oper} {rest : List Oper} {o : Oper} {a : Act} {Q : Exit → Act → World → Prop} {w : World} (hgd : o.guard = none) (s x : Operand)
    (ho : o.op = .call { callee := .builtin .append, args := #[s, x], argTypes := #[26, 26] })
    (base : Nat) (v : Value) (L : List Qc) (hs : a.eval s = v) (hown : OwnsQ w base v L)
    (g n c : Nat) (M : List Qc) (hn : n = M.length) (hx : a.eval x = .slice (some ⟨g, 0, none⟩) n c) (hM : QAt w g 0 M)
    (hlen : L.length + M.length < 1099511627776) (hbase : base ≤ w.heap.size)
    (h : ∀ v' w', OwnsQ w' base v' (L ++ M) → Below base w w' → w.grownBy w' v.ownBlock → wpList Tryz.prog ops Q rest (a.put o.dst v') w') : wpList Tryz.prog ops Q (o :: rest) a w := by
  obtain ⟨i0, hi, hz0, hzs, hzb⟩ := info_parts infoQ
  subst hn
  refine wpList_append_own (P := Tryz.prog) w hgd s x 26 ho base 59 i0 _ 4 4 Tryz.underlying26 hi hz0 hzs hzb rfl (by decide) v L.length (cq L) hs hown ⟨g, 0, none⟩ M.length c (cq M) hx (cq_len M) ?_ (fun u hu => cq_one_cell hu) (by unfold maxLen; omega) (by omega) hbase ?_
  · intro j u hj
    have hjl : j < (cq M).length := (List.getElem?_eq_some_iff.1 hj).1
    rw [cq_len] at hjl
    obtain ⟨qq, hq⟩ : ∃ qq, M[j / 4]? = some qq := ⟨_, List.getElem?_eq_getElem (show j / 4 < M.length by omega)⟩
    have e := hM (j / 4) _ hq
    have ej : j / 4 * 4 + j % 4 = j := by omega
    have hc := cq_at M (j / 4) (j % 4) _ hq (by omega)
    rw [ej, hj] at hc
    rw [show (⟨g, 0, none⟩ : Addr).add j = ⟨g, j, none⟩ by unfold Addr.add; split <;> simp_all]
    rw [Nat.zero_add] at e
    have h4 : j % 4 < 4 := by omega
    generalize j % 4 = r at h4 ej hc
    rw [hc, ← ej]
    match r, h4 with
    | 0, _ => exact e.1
    | 1, _ => exact e.2.1
    | 2, _ => exact e.2.2.1
    | 3, _ => exact e.2.2.2
  · intro v' w' h1 h2 _
    refine h v' w' ?_ ((Below.refl _ _).grown h2 hbase fun k hk => (World.ownsRow.lt hown k hk).1) h2
    show World.ownsRow _ _ _ _ _ _ _
    rw [List.length_append, cq_append]
    exact h1
theorem q_new (w : World) (q : Qc) : QAt (w.alloc (.cells #[.int .u8 (q.r.toNat : Int), .int .u8 (q.g.toNat : Int), .int .u8 (q.b.toNat : Int), .int .u8 (q.a.toNat : Int)] 59)) w.heap.size 0 [q] := by
  intro i q' hi
  cases i with
  | zero =>
    have : q = q' := by simpa using hi
    subst this
    exact ⟨cell_new _ _ _ 0 _ rfl, cell_new _ _ _ 1 _ rfl, cell_new _ _ _ 2 _ rfl, cell_new _ _ _ 3 _ rfl⟩
  | succ i => simp at hi
theorem QAt.below {w w' : World} {b off : Nat} {C : List Qc} (h : QAt w b off C) (hb : Below w.heap.size w w') : QAt w' b off C := fun i q hi => by
  obtain ⟨h0, h1, h2, h3⟩ := h i q hi
  have hl := World.block_lt_of_cell? w _ h0
  exact ⟨(hb.cell (p := ⟨b, off + i * 4, none⟩) hl).trans h0, (hb.cell (p := ⟨b, off + i * 4 + 1, none⟩) hl).trans h1, (hb.cell (p := ⟨b, off + i * 4 + 2, none⟩) hl).trans h2, (hb.cell (p := ⟨b, off + i * 4 + 3, none⟩) hl).trans h3⟩
theorem Blk.grownQ {w w' : World} {base k : Nat} {t : TypeId} {cs : Array Value} {v : Value} {L : List Qc} (h : Blk w k t cs) (o : OwnsQ w base v L) (ht : t ≠ 59) (hg : w.grownBy w' v.ownBlock) : Blk w' k t cs :=
  h.grown hg (fun e => by
    rcases o.2 with ⟨rfl, _⟩ | ⟨r, cap, cur, rfl, _, hr, _⟩
    · cases e
    · have hk : k = r := by simpa [Value.ownBlock] using e
      subst hk
      exact Blk.ne_ h hr ht rfl)
theorem OwnsQ.slice {w : World} {base : Nat} {v : Value} {L : List Qc} (h : OwnsQ w base v L) : ∃ a c, v = .slice a L.length c := by
  rcases h.form with ⟨rfl, rfl⟩ | ⟨g, cap, rfl, _⟩
  · exact ⟨none, 0, rfl⟩
  · exact ⟨_, _, rfl⟩
theorem OwnsQ.at_ {w : World} {base g n c : Nat} {L : List Qc} (h : OwnsQ w base (.slice (some ⟨g, 0, none⟩) n c) L) : QAt w g 0 L := by
  rcases h.form with ⟨e, rfl⟩ | ⟨g', cap, e, _, _, _, hq⟩
  · cases e
  · simp only [Value.slice.injEq, Option.some.injEq, Addr.mk.injEq] at e
    rw [e.1.1]
    exact hq
end Go.Proofs.YtgmgcfjllijhgaaGreat
