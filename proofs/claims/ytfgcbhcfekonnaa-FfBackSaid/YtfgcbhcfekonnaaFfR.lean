/- farbfeld: what Write tells. -/
import Derived.Test.YtfgcbhcfekonnaaFfG
import Derived.Test.YtfgcbhcfekonnaaAppendStr
import Derived.ArgAppend
import Derived.Lib.SlBytesConst
namespace Go.Proofs.Ytfgcbhcfekonnaa
open Go.RowKit
set_option linter.unusedVariables false
set_option linter.unusedSimpArgs false

/-- append(v, a row of bytes...): as one of a list of operations -/
theorem wpList_append_row {ops : Array Oper} {rest : List Oper} {o : Oper} {a : Act} {Q : Exit → Act → World → Prop} {w : World} (hgd : o.guard = none) (s x : Operand)
    (ho : o.op = .call { callee := .builtin .append, args := #[s, x], argTypes := #[44, 44] })
    (base : Nat) (v : Value) (l m : List UInt8) (hs : a.eval s = v) (hown : Owns8 w base v l)
    (g n c : Nat) (hn : n = m.length) (hx : a.eval x = .slice (some ⟨g, 0, none⟩) n c) (hc : ∀ (j : Nat) (b : UInt8), m[j]? = some b → w.cell? ⟨g, j, none⟩ = some (.int .u8 (b.toNat : Int)))
    (hlen : l.length + m.length < 1099511627776) (hbase : base ≤ w.heap.size)
    (h : ∀ v' w', Owns8 w' base v' (l ++ m) → Below base w w' → w.grownBy w' v.ownBlock → wpList Try.prog ops Q rest (a.put o.dst v') w') : wpList Try.prog ops Q (o :: rest) a w := by
  obtain ⟨i0, hi, hz0, hz1, hz2⟩ := info_parts info8
  subst hn
  refine wpList_append_own (P := Try.prog) w hgd s x 44 ho base 5 i0 (.int .u8 0) 1 1 Try.underlying44 hi hz0 hz1 hz2 rfl (by decide) v l.length (C8 l) hs hown ⟨g, 0, none⟩ m.length c (C8 m) hx (by simp [C8]) ?_ (fun u hu => by unfold C8 at hu; obtain ⟨b, _, rfl⟩ := List.mem_map.1 hu; rfl) (by unfold maxLen; omega) (by omega) hbase ?_
  · intro j u hj
    unfold C8 at hj
    rw [List.getElem?_map] at hj
    obtain ⟨b, hb, rfl⟩ := Option.map_eq_some_iff.1 hj
    rw [addrAdd, Nat.zero_add]
    exact hc j b hb
  · intro v' w' h1 h2 _
    refine h v' w' ?_ (hown.below (Below.refl _ _) (Nat.le_refl _) hbase h2) h2
    show World.ownsRow _ _ _ _ _ _ _
    have e2 : C8 (l ++ m) = C8 l ++ C8 m := by simp [C8]
    rw [List.length_append, e2]
    exact h1
theorem Owns8.lower {w : World} {base base' : Nat} {v : Value} {l : List UInt8} (h : Owns8 w base v l) (hb : base' ≤ base) : Owns8 w base' v l := by
  refine ⟨h.1, ?_⟩
  rcases h.2 with h | ⟨g, cap, cur, hv, hg, r⟩
  · exact .inl h
  · exact .inr ⟨g, cap, cur, hv, Nat.le_trans hb hg, r⟩
/-- append onto bytes that are full: a new row -/
theorem wpList_append_full {ops : Array Oper} {rest : List Oper} {o : Oper} {a : Act} {Q : Exit → Act → World → Prop} {w : World} (hgd : o.guard = none) (s x : Operand)
    (ho : o.op = .call { callee := .builtin .append, args := #[s, x], argTypes := #[44, 44] })
    (base g1 n1 cap : Nat) (l m : List UInt8) (h1 : n1 = l.length) (hs : a.eval s = .slice (some ⟨g1, 0, none⟩) n1 cap) (hc1 : ∀ (j : Nat) (b : UInt8), l[j]? = some b → w.cell? ⟨g1, j, none⟩ = some (.int .u8 (b.toNat : Int)))
    (g n c : Nat) (hn : n = m.length) (hx : a.eval x = .slice (some ⟨g, 0, none⟩) n c) (hc : ∀ (j : Nat) (b : UInt8), m[j]? = some b → w.cell? ⟨g, j, none⟩ = some (.int .u8 (b.toNat : Int)))
    (hfull : cap < l.length + m.length) (hlen : l.length + m.length < 1000000) (hbase : base ≤ w.heap.size)
    (h : ∀ v' w', Owns8 w' base v' (l ++ m) → Below w.heap.size w w' → wpList Try.prog ops Q rest (a.put o.dst v') w') : wpList Try.prog ops Q (o :: rest) a w := by
  obtain ⟨i0, hi, hz0, hz1, hz2⟩ := info_parts info8
  subst hn h1
  have cells8 : ∀ (q : Nat) (k : List UInt8), (∀ (j : Nat) (b : UInt8), k[j]? = some b → w.cell? ⟨q, j, none⟩ = some (.int .u8 (b.toNat : Int))) → ∀ j u, (C8 k)[j]? = some u → w.cell? ((⟨q, 0, none⟩ : Addr).add j) = some u := by
    intro q k hk j u hj
    unfold C8 at hj
    rw [List.getElem?_map] at hj
    obtain ⟨b, hb, rfl⟩ := Option.map_eq_some_iff.1 hj
    rw [addrAdd, Nat.zero_add]
    exact hk j b hb
  obtain ⟨v', w', hr, h2, h3⟩ := run_append_arg_grows (P := Try.prog) w 44 o.type 5 i0 (.int .u8 0) 1 1 Try.underlying44 hi hz0 hz1 hz2 rfl (by decide) ⟨g1, 0, none⟩ l.length cap (C8 l) (by simp [C8]) (cells8 g1 l hc1) ⟨g, 0, none⟩ m.length c (C8 m) (by simp [C8]) (cells8 g m hc) hfull (by unfold maxLen; omega) (by omega)
  refine wpList_plain hgd fun K hK => ?_
  unfold Oper.wp
  simp only [execOp, ho, resolve, invoke, builtin, Sem.run_bind, Sem.run_pure, Result.andThen_ok, List.map_toArray, List.map_cons, List.map_nil, hs, hx, hr]
  have own : Owns8 w' w.heap.size v' (l ++ m) := by
    show World.ownsRow _ _ _ _ _ _ _
    have e2 : C8 (l ++ m) = C8 l ++ C8 m := by simp [C8]
    rw [List.length_append, e2]
    exact h2
  exact hK _ _ (h v' w' (own.lower hbase) ⟨h3.os, h3.tape, h3.output, h3.size, fun i hi => h3.block i hi (by simp)⟩)
/-- each byte twice -/
def dbl : List UInt8 → List UInt8
  | [] => []
  | b :: l => b :: b :: dbl l
theorem dbl_append (l m : List UInt8) : dbl (l ++ m) = dbl l ++ dbl m := by
  induction l with
  | nil => rfl
  | cons b l ih => simp [dbl, ih]
theorem dbl_len (l : List UInt8) : (dbl l).length = 2 * l.length := by
  induction l with
  | nil => rfl
  | cons b l ih => simp only [dbl, List.length_cons, ih]; omega
def ffHd (W H : Nat) : List UInt8 := [102, 97, 114, 98, 102, 101, 108, 100, 0, 0, 0, UInt8.ofNat W, 0, 0, 0, UInt8.ofNat H]
/-- a small image's file -/
def ffFile (W H : Nat) (l : List UInt8) : List UInt8 := ffHd W H ++ dbl l
theorem idx2 (p q : Value) : (∀ w, (Instr.index 109 (.agg #[p, q]) (.int .i64 0)).run Try.prog w = .ok p w) ∧ (∀ w, (Instr.index 109 (.agg #[p, q]) (.int .i64 1)).run Try.prog w = .ok q w) := ⟨fun _ => by kernel_rfl, fun _ => by kernel_rfl⟩
theorem dbl_take {l : List UInt8} {j : Nat} (h : j < l.length) : dbl (l.take (j + 1)) = dbl (l.take j) ++ [l[j], l[j]] := by
  rw [List.take_add_one, List.getElem?_eq_getElem h, dbl_append]
  rfl
theorem cells_new (w : World) (m : List UInt8) (cs : Array Value) (h : cs = (C8 m).toArray) (j : Nat) (b : UInt8) (hj : m[j]? = some b) : (w.alloc (.cells cs 5)).cell? ⟨w.heap.size, j, none⟩ = some (.int .u8 (b.toNat : Int)) := by
  subst h
  refine (cell_new _ _ _ _ _ rfl).trans ?_
  simp [C8, hj]
theorem convLit (w : World) : (convert 44 44 (.slice (some ⟨w.heap.size, 0, none⟩) 8 8)).run Try.prog (w.alloc (.cells #[.int .u8 102, .int .u8 97, .int .u8 114, .int .u8 98, .int .u8 102, .int .u8 101, .int .u8 108, .int .u8 100] 5)) = .ok (.slice (some ⟨w.heap.size, 0, none⟩) 8 8) (w.alloc (.cells #[.int .u8 102, .int .u8 97, .int .u8 114, .int .u8 98, .int .u8 102, .int .u8 101, .int .u8 108, .int .u8 100] 5 (8, 9))) :=
  Go.Lib.run_convert_bytes_const w 44 5 _ 8 8 Try.underlying44 Try.underlying5
def ffW8 : List UInt8 := [102, 97, 114, 98, 102, 101, 108, 100]
def Lit8 (w : World) (g : Nat) : Prop := ∀ (j : Nat) (b : UInt8), ffW8[j]? = some b → w.cell? ⟨g, j, none⟩ = some (.int .u8 (b.toNat : Int))
theorem lit8_new (w : World) : Lit8 (w.alloc (.cells #[.int .u8 102, .int .u8 97, .int .u8 114, .int .u8 98, .int .u8 102, .int .u8 101, .int .u8 108, .int .u8 100] 5 (8, 9))) w.heap.size := by
  intro j b hj
  refine (cell_of_row _ _ j _ _ _ (heap_alloc_new w _)).trans ?_
  have hj8 : j < 8 := (List.getElem?_eq_some_iff.1 hj).1
  rcases (by omega : j = 0 ∨ j = 1 ∨ j = 2 ∨ j = 3 ∨ j = 4 ∨ j = 5 ∨ j = 6 ∨ j = 7) with rfl | rfl | rfl | rfl | rfl | rfl | rfl | rfl
  all_goals (simp [ffW8] at hj; subst hj; rfl)
theorem Lit8.below {w w' : World} {g : Nat} (h : Lit8 w g) (hb : Below w.heap.size w w') : Lit8 w' g := fun j b hj => (hb.cell (p := ⟨g, j, none⟩) (World.block_lt_of_cell? w _ (h j b hj))).trans (h j b hj)
end Go.Proofs.Ytfgcbhcfekonnaa
