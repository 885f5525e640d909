/- The document's raster: Bytes. -/
import Derived.Test.YtgmgcfjllijhgaaRasRef
import Derived.Test.YtgmgcfjllijhgaaWrA
import Derived.Deep.RegionLaw
import Derived.Deep.RegionHeld3
namespace Go.Proofs.Ytgmgcfjllijhgaa
open Go.RowKit
set_option linter.unusedVariables false
set_option linter.unusedSimpArgs false

/-- append(v, a row of bytes...): one operation -/
theorem oper_append_row {o : Oper} {a : Act} {w : World} {K : Act → World → Prop} {Q : Exit → Act → World → Prop}
    (s x : Operand) (ho : o.op = .call { callee := .builtin .append, args := #[s, x], argTypes := #[27, 27] })
    (base : Nat) (v : Value) (l m : List UInt8) (hs : a.eval s = v) (hown : Owns8 w base v l)
    (g n c : Nat) (hn : n = m.length) (hx : a.eval x = .slice (some ⟨g, 0, none⟩) n c) (hc : ∀ (j : Nat) (b : UInt8), m[j]? = some b → w.cell? ⟨g, j, none⟩ = some (.int .u8 (b.toNat : Int)))
    (hlen : l.length + m.length < 1099511627776) (hbase : base ≤ w.heap.size)
    (h : ∀ v' w', Owns8 w' base v' (l ++ m) → Below base w w' → K (a.put o.dst v') w') : Oper.wp Try.prog o a w K Q := by
  subst hn
  obtain ⟨i0, hi, hz0, hz1, hz2⟩ := info_parts info8
  obtain ⟨v', w', hr, h2, h3, h4⟩ := run_append_own (P := Try.prog) w base 27 o.type 5 i0 (.int .u8 0) 1 1 Try.underlying27 hi hz0 hz1 hz2 rfl (by decide) v l.length (C8 l) hown ⟨g, 0, none⟩ m.length c (C8 m) (by simp [C8]) (fun j u hj => by
    unfold C8 at hj
    rw [List.getElem?_map] at hj
    obtain ⟨b, hb, rfl⟩ := Option.map_eq_some_iff.1 hj
    have e : (⟨g, 0, none⟩ : Addr).add j = ⟨g, j, none⟩ := by unfold Addr.add; by_cases hj : j = 0 <;> simp [hj]
    rw [e]; exact hc j b hb) (fun u hu => by unfold C8 at hu; obtain ⟨b, _, rfl⟩ := List.mem_map.1 hu; rfl) (by unfold maxLen; omega) (by omega) hbase
  unfold Oper.wp
  simp only [execOp, ho, resolve, invoke, builtin, Sem.run_bind, Sem.run_pure, Result.andThen_ok, List.map_toArray, List.map_cons, List.map_nil, hs, hx, hr]
  refine h v' w' ?_ (hown.below (Below.refl _ _) (Nat.le_refl _) hbase h3)
  show World.ownsRow _ _ _ _ _ _ _
  have e2 : C8 (l ++ m) = C8 l ++ C8 m := by simp [C8]
  rw [List.length_append, e2]
  exact h2
theorem flat_next' {L : List Qc} {i : Nat} {q : Qc} (h : L[i]? = some q) : flat (L.take (i + 1)) = flat (L.take i) ++ [q.r, q.g, q.b, q.a] := by
  rw [List.take_add_one, h, flat_append]
  simp [flat, Qc.list]
theorem quad_new (w : World) (q : Qc) (j : Nat) (b : UInt8) (h : [q.r, q.g, q.b, q.a][j]? = some b) : (w.alloc (.cells #[.int .u8 (q.r.toNat : Int), .int .u8 (q.g.toNat : Int), .int .u8 (q.b.toNat : Int), .int .u8 (q.a.toNat : Int)] 5)).cell? ⟨w.heap.size, j, none⟩ = some (.int .u8 (b.toNat : Int)) := by
  refine (cell_new _ _ _ _ _ rfl).trans ?_
  match j, h with
  | 0, h => simp at h; subst h; rfl
  | 1, h => simp at h; subst h; rfl
  | 2, h => simp at h; subst h; rfl
  | 3, h => simp at h; subst h; rfl
end Go.Proofs.Ytgmgcfjllijhgaa
