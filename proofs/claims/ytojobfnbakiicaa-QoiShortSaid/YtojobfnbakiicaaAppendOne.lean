/- append of one value of one cell onto a row that the call owns. -/
import Derived.Test.YtojobfnbakiicaaWords
import Derived.Deep.OwnRows
namespace Go.Proofs.Ytojobfnbakiicaa
open Go.RowKit
set_option linter.unusedVariables false

/-- the slice value v owns the values l, in a block from base on -/
def Owns1 (w : World) (base : Nat) (e : TypeId) (v : Value) (l : List Value) : Prop := w.ownsRow base e 1 v l.length l

section
variable {w w' : World} {base : Nat} {e : TypeId} {v : Value} {l : List Value}
theorem Owns1.nil (w : World) (base : Nat) (e : TypeId) : Owns1 w base e (.slice none 0 0) [] := World.ownsRow_nil _ _ _ _
theorem Owns1.alloc (h : Owns1 w base e v l) (o : Obj) : Owns1 (w.alloc o) base e v l := World.ownsRow.alloc h o
theorem Owns1.drew (h : Owns1 w base e v l) : Owns1 w.drew base e v l := h
theorem Owns1.drewN (h : Owns1 w base e v l) (n : Nat) : Owns1 (w.drewN n) base e v l := h
theorem Owns1.kept {row : Option Nat} (h : Owns1 w base e v l) (hg : w.grownBy w' row) (hne : v.ownBlock = none ∨ v.ownBlock ≠ row) : Owns1 w' base e v l := World.ownsRow.kept h hg hne
theorem Owns1.below (h : Owns1 w base e v l) {a : World} {B : Nat} (hb : Below B a w) (hB : B ≤ base) (hw : base ≤ w.heap.size) (hg : w.grownBy w' v.ownBlock) : Below B a w' :=
  hb.grown hg (Nat.le_trans hB hw) fun k hk => Nat.le_trans hB (World.ownsRow.lt h k hk).1
theorem Owns1.stays {B : Nat} (h : Owns1 w base e v l) (hb : Below B w w') (hB : w.heap.size ≤ B) : Owns1 w' base e v l :=
  h.kept (row := none) ⟨hb.os, hb.tape, hb.output, hb.size, fun i hi _ => hb.block i (by omega)⟩ (by cases v.ownBlock <;> simp)
/-- the slice's cells -/
theorem Owns1.form (h : Owns1 w base e v l) : (v = .slice none 0 0 ∧ l = []) ∨ ∃ g cap, v = .slice (some ⟨g, 0, none⟩) l.length cap ∧ base ≤ g ∧ g < w.heap.size ∧ l.length ≤ cap ∧ cap ≤ maxLen ∧ ∀ j, j < l.length → w.cell? ⟨g, j, none⟩ = l[j]? := by
  rcases h.2 with ⟨rfl, hn⟩ | ⟨g, cap, cur, rfl, hb, hg, hc, hm, hs, ht⟩
  · exact .inl ⟨rfl, List.eq_nil_of_length_eq_zero hn⟩
  · refine .inr ⟨g, cap, rfl, hb, (World.ownsRow.lt h g rfl).2, hc, hm, fun j hj => ?_⟩
    rw [cell_of_row w g j cur e (0, 0) hg, ← Array.getElem?_toList]
    have : l[j]? = (cur.toList.take (l.length * 1))[j]? := by rw [ht]
    rw [this, List.getElem?_take_of_lt (by omega)]
end

/-- append of one value, laid in a new cell -/
theorem wpList_append_one {ops : Array Oper} {rest : List Oper} {o : Oper} {a : Act} {Q : Exit → Act → World → Prop} {w : World} (hgd : o.guard = none) (s x : Operand) (t e : TypeId)
    (ho : o.op = .call { callee := .builtin .append, args := #[s, x], argTypes := #[t, t] })
    (z : Value) (nb : Nat) (ht : Try.prog.underlying t = some (.slice e)) (hinfo : (Try.prog.info? e).map (fun i => (i.zero, i.size, i.bytes)) = some (some z, 1, nb)) (hz1 : z.cells.size = 1) (hnb : nb ≤ 16)
    (base : Nat) (v : Value) (l : List Value) (hs : a.eval s = v) (hown : Owns1 w base e v l)
    (g : Addr) (hx : a.eval x = .slice (some g) 1 1) (u : Value) (hc : w.cell? g = some u) (hu : u.oneCell' = true)
    (hlen : l.length < 1099511627776) (hbase : base ≤ w.heap.size)
    (h : ∀ v' w', Owns1 w' base e v' (l ++ [u]) → Below base w w' → w.grownBy w' v.ownBlock → wpList Try.prog ops Q rest (a.put o.dst v') w') : wpList Try.prog ops Q (o :: rest) a w := by
  obtain ⟨i0, hi, hz0, hzs, hzb⟩ := info_parts hinfo
  refine wpList_append_own (P := Try.prog) w hgd s x t ho base e i0 z 1 nb ht hi hz0 hzs hzb hz1 (by decide) v l.length l hs hown g 1 1 [u] hx rfl ?_ ?_ (by unfold maxLen; omega) ?_ hbase ?_
  · intro j u' hj
    cases j with
    | zero => simp at hj; subst hj; simpa [Addr.add] using hc
    | succ j => simp at hj
  · intro u' hu'; simp at hu'; subst hu'; exact hu
  · have : (l.length + 1) * nb ≤ 1099511627776 * 16 := Nat.mul_le_mul (by omega) hnb
    omega
  · intro v' w' h1 h2 _
    refine h v' w' ?_ (hown.below (Below.refl _ _) (Nat.le_refl _) hbase h2) h2
    show World.ownsRow _ _ _ _ _ _ _
    simpa using h1
end Go.Proofs.Ytojobfnbakiicaa
