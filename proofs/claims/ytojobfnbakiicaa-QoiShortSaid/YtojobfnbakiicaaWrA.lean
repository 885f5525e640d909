/- Appends of rows of bytes. -/
import Derived.Test.YtojobfnbakiicaaRas
import Derived.Test.YtojobfnbakiicaaAppendStr
import Derived.ArgAppend
import Derived.Lib.SlBytesConst
namespace Go.Proofs.Ytojobfnbakiicaa
open Go.RowKit
set_option linter.unusedVariables false
set_option linter.unusedSimpArgs false

/-- append(v, a row of bytes...): as one of a list of operations -/
theorem wpList_append_row {ops : Array Oper} {rest : List Oper} {o : Oper} {a : Act} {Q : Exit → Act → World → Prop} {w : World} (hgd : o.guard = none) (s x : Operand)
    (ho : o.op = .call { callee := .builtin .append, args := #[s, x], argTypes := #[24, 24] })
    (base : Nat) (v : Value) (l m : List UInt8) (hs : a.eval s = v) (hown : Owns8 w base v l)
    (g n c : Nat) (hn : n = m.length) (hx : a.eval x = .slice (some ⟨g, 0, none⟩) n c) (hc : ∀ (j : Nat) (b : UInt8), m[j]? = some b → w.cell? ⟨g, j, none⟩ = some (.int .u8 (b.toNat : Int)))
    (hlen : l.length + m.length < 1099511627776) (hbase : base ≤ w.heap.size)
    (h : ∀ v' w', Owns8 w' base v' (l ++ m) → Below base w w' → w.grownBy w' v.ownBlock → wpList Try.prog ops Q rest (a.put o.dst v') w') : wpList Try.prog ops Q (o :: rest) a w := by
  obtain ⟨i0, hi, hz0, hz1, hz2⟩ := info_parts info8
  subst hn
  refine wpList_append_own (P := Try.prog) w hgd s x 24 ho base 5 i0 (.int .u8 0) 1 1 Try.underlying24 hi hz0 hz1 hz2 rfl (by decide) v l.length (C8 l) hs hown ⟨g, 0, none⟩ m.length c (C8 m) hx (by simp [C8]) ?_ (fun u hu => by unfold C8 at hu; obtain ⟨b, _, rfl⟩ := List.mem_map.1 hu; rfl) (by unfold maxLen; omega) (by omega) hbase ?_
  · intro j u hj
    unfold C8 at hj
    rw [List.getElem?_map] at hj
    obtain ⟨b, hb, rfl⟩ := Option.map_eq_some_iff.1 hj
    rw [addrAdd, Nat.zero_add]
    exact hc j b hb
  · intro v' w' h1 h2 _
    refine h v' w' ?_ (hown.below (Below.refl _ _) (Nat.le_refl _) hbase h2) h2
    show World.ownsRow _ _ _ _ _ _ _
    have e2 : C8 (l ++ m) = C8 l ++ C8 m := by simp [C8]
    rw [List.length_append, e2]
    exact h1
theorem Owns8.lower {w : World} {base base' : Nat} {v : Value} {l : List UInt8} (h : Owns8 w base v l) (hb : base' ≤ base) : Owns8 w base' v l := by
  refine ⟨h.1, ?_⟩
  rcases h.2 with h | ⟨g, cap, cur, hv, hg, r⟩
  · exact .inl h
  · exact .inr ⟨g, cap, cur, hv, Nat.le_trans hb hg, r⟩
/-- append onto bytes that are full: a new row -/
theorem wpList_append_full {ops : Array Oper} {rest : List Oper} {o : Oper} {a : Act} {Q : Exit → Act → World → Prop} {w : World} (hgd : o.guard = none) (s x : Operand)
    (ho : o.op = .call { callee := .builtin .append, args := #[s, x], argTypes := #[24, 24] })
    (base g1 n1 cap : Nat) (l m : List UInt8) (h1 : n1 = l.length) (hs : a.eval s = .slice (some ⟨g1, 0, none⟩) n1 cap) (hc1 : ∀ (j : Nat) (b : UInt8), l[j]? = some b → w.cell? ⟨g1, j, none⟩ = some (.int .u8 (b.toNat : Int)))
    (g n c : Nat) (hn : n = m.length) (hx : a.eval x = .slice (some ⟨g, 0, none⟩) n c) (hc : ∀ (j : Nat) (b : UInt8), m[j]? = some b → w.cell? ⟨g, j, none⟩ = some (.int .u8 (b.toNat : Int)))
    (hfull : cap < l.length + m.length) (hlen : l.length + m.length < 1000000) (hbase : base ≤ w.heap.size)
    (h : ∀ v' w', Owns8 w' base v' (l ++ m) → Below w.heap.size w w' → wpList Try.prog ops Q rest (a.put o.dst v') w') : wpList Try.prog ops Q (o :: rest) a w := by
  obtain ⟨i0, hi, hz0, hz1, hz2⟩ := info_parts info8
  subst hn h1
  have cells8 : ∀ (q : Nat) (k : List UInt8), (∀ (j : Nat) (b : UInt8), k[j]? = some b → w.cell? ⟨q, j, none⟩ = some (.int .u8 (b.toNat : Int))) → ∀ j u, (C8 k)[j]? = some u → w.cell? ((⟨q, 0, none⟩ : Addr).add j) = some u := by
    intro q k hk j u hj
    unfold C8 at hj
    rw [List.getElem?_map] at hj
    obtain ⟨b, hb, rfl⟩ := Option.map_eq_some_iff.1 hj
    rw [addrAdd, Nat.zero_add]
    exact hk j b hb
  obtain ⟨v', w', hr, h2, h3⟩ := run_append_arg_grows (P := Try.prog) w 24 o.type 5 i0 (.int .u8 0) 1 1 Try.underlying24 hi hz0 hz1 hz2 rfl (by decide) ⟨g1, 0, none⟩ l.length cap (C8 l) (by simp [C8]) (cells8 g1 l hc1) ⟨g, 0, none⟩ m.length c (C8 m) (by simp [C8]) (cells8 g m hc) hfull (by unfold maxLen; omega) (by omega)
  refine wpList_plain hgd fun K hK => ?_
  unfold Oper.wp
  simp only [execOp, ho, resolve, invoke, builtin, Sem.run_bind, Sem.run_pure, Result.andThen_ok, List.map_toArray, List.map_cons, List.map_nil, hs, hx, hr]
  have own : Owns8 w' w.heap.size v' (l ++ m) := by
    show World.ownsRow _ _ _ _ _ _ _
    have e2 : C8 (l ++ m) = C8 l ++ C8 m := by simp [C8]
    rw [List.length_append, e2]
    exact h2
  exact hK _ _ (h v' w' (own.lower hbase) ⟨h3.os, h3.tape, h3.output, h3.size, fun i hi => h3.block i hi (by simp)⟩)
theorem idx2 (p q : Value) : (∀ w, (Instr.index 34 (.agg #[p, q]) (.int .i64 0)).run Try.prog w = .ok p w) ∧ (∀ w, (Instr.index 34 (.agg #[p, q]) (.int .i64 1)).run Try.prog w = .ok q w) := ⟨fun _ => by kernel_rfl, fun _ => by kernel_rfl⟩
theorem cells_new (w : World) (m : List UInt8) (cs : Array Value) (h : cs = (C8 m).toArray) (j : Nat) (b : UInt8) (hj : m[j]? = some b) : (w.alloc (.cells cs 5)).cell? ⟨w.heap.size, j, none⟩ = some (.int .u8 (b.toNat : Int)) := by
  subst h
  refine (cell_new _ _ _ _ _ rfl).trans ?_
  simp [C8, hj]
end Go.Proofs.Ytojobfnbakiicaa
