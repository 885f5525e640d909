/- The document's raster: New, Is. The document's raster: Flip. The document's raster: Set. append of whatever yields cells (a slice, a string, nil) onto a row that the call owns. Appends of rows of bytes. -/
import Derived.Test.YtlehkgkomjojmaaGreatGScaler
import Derived.Test.YtlehkgkomjojmaaGreatGRas
import Derived.Test.YtlehkgkomjojmaaGreatGWords
import Derived.ArgAppend
import Derived.Lib.SlBytesConst
namespace Go.Proofs.YtlehkgkomjojmaaGreat
open Go.RowKit
set_option linter.unusedVariables false
set_option linter.unusedSimpArgs false

def refC (W H : Int) (q n c : Nat) (o : Bool) : Array Value := #[.int .i64 W, .int .i64 H, .slice (some ⟨q, 0, none⟩) n c, .bool o]
section
variable {w : World} {k q n c : Nat} {W H : Int} {o : Bool}
end
theorem QAt.below' {w w' : World} {b off : Nat} {C : List Qc} (h : QAt w b off C) (hb : Below w.heap.size w w') : QAt w' b off C := fun i q hi => by
 obtain ⟨h0, h1, h2, h3⟩ := h i q hi
 have hl := World.block_lt_of_cell? w _ h0
 exact ⟨(hb.cell (p := ⟨b, off + i * 4, none⟩) hl).trans h0, (hb.cell (p := ⟨b, off + i * 4 + 1, none⟩) hl).trans h1, (hb.cell (p := ⟨b, off + i * 4 + 2, none⟩) hl).trans h2, (hb.cell (p := ⟨b, off + i * 4 + 3, none⟩) hl).trans h3⟩
def q0 : Qc := ⟨0, 0, 0, 0⟩
theorem made_q (n : Nat) (i j : Nat) (hi : i < n) (hj : j < 4) : (madeCells #[.int .u8 0, .int .u8 0, .int .u8 0, .int .u8 0] (n * 4))[i * 4 + j]? = some (.int .u8 0) := by
 unfold madeCells
 rw [Array.getElem?_map, Array.getElem?_range]
 have h : i * 4 + j < n * 4 := by omega
 simp only [h, if_pos, Option.map_some]
 have hm : (i * 4 + j) % 4 = j := by omega
 simp only [List.size_toArray, List.length_cons, List.length_nil, Nat.zero_add, Nat.reduceAdd, hm]
 match j, hj with
 | 0, _ => rfl
 | 1, _ => rfl
 | 2, _ => rfl
 | 3, _ => rfl
theorem q_made (w : World) (n : Nat) : QAt (w.alloc (.cells (madeCells #[.int .u8 0, .int .u8 0, .int .u8 0, .int .u8 0] (n * 4)) 68)) w.heap.size 0 (List.replicate n q0) := fun i q hi => by
 have hin : i < n := by have := (List.getElem?_eq_some_iff.1 hi).1; simpa using this
 have hq : q = q0 := by rw [List.getElem?_replicate, if_pos hin] at hi; exact (Option.some.inj hi).symm
 subst hq
 rw [Nat.zero_add]
 exact ⟨(cell_new _ _ _ _ _ rfl).trans (made_q n i 0 hin (by omega)), (cell_new _ _ _ _ _ rfl).trans (made_q n i 1 hin (by omega)), (cell_new _ _ _ _ _ rfl).trans (made_q n i 2 hin (by omega)), (cell_new _ _ _ _ _ rfl).trans (made_q n i 3 hin (by omega))⟩
theorem prod3_in {m s p : Nat} (h : m * s = p) (hp : p ≤ 4294967296) : IntKind.i64.wrap ((m : Int) * (s : Int)) = (p : Int) := by
 have e : (m : Int) * (s : Int) = (p : Int) := by rw [← h]; exact (Int.natCast_mul m s).symm
 rw [e]
 exact IntWalk.i64_in _ (by omega)
end Go.Proofs.YtlehkgkomjojmaaGreat
namespace Go.Proofs.YtlehkgkomjojmaaGreat
open Go.RowKit
set_option linter.unusedVariables false
set_option linter.unusedSimpArgs false

end Go.Proofs.YtlehkgkomjojmaaGreat
namespace Go.Proofs.YtlehkgkomjojmaaGreat
open Go.RowKit
set_option linter.unusedVariables false
set_option linter.unusedSimpArgs false

theorem QAt.set {w : World} {g i : Nat} {cs : Array Value} {L : List Qc} {q : Qc} (hb : Blk w g 68 cs) (h : QAt w g 0 L) (hi : i < L.length) (hsz : i * 4 + 4 ≤ cs.size) :
  QAt ((((w.setCell ⟨g, i * 4, none⟩ (.int .u8 (q.r.toNat : Int))).setCell ⟨g, i * 4 + 1, none⟩ (.int .u8 (q.g.toNat : Int))).setCell ⟨g, i * 4 + 2, none⟩ (.int .u8 (q.b.toNat : Int))).setCell ⟨g, i * 4 + 3, none⟩ (.int .u8 (q.a.toNat : Int))) g 0 (L.set i q) := by
 have hb4 := (((hb.set_ (i * 4) (.int .u8 (q.r.toNat : Int))).set_ (i * 4 + 1) (.int .u8 (q.g.toNat : Int))).set_ (i * 4 + 2) (.int .u8 (q.b.toNat : Int))).set_ (i * 4 + 3) (.int .u8 (q.a.toNat : Int))
 intro j q' hj
 have hjl : j < L.length := by have := (List.getElem?_eq_some_iff.1 hj).1; simpa using this
 rw [Nat.zero_add]
 by_cases hji : j = i
 ·subst hji
  have hq : q' = q := by
   rw [List.getElem?_set_self hjl] at hj
   exact (Option.some.inj hj).symm
  subst hq
  refine ⟨(Blk.cell hb4 _).trans ?_, (Blk.cell hb4 _).trans ?_, (Blk.cell hb4 _).trans ?_, (Blk.cell hb4 _).trans ?_⟩
  ·rw [Array.getElem?_setIfInBounds_ne (by omega), Array.getElem?_setIfInBounds_ne (by omega), Array.getElem?_setIfInBounds_ne (by omega), Array.getElem?_setIfInBounds_self_of_lt (by omega)]
  ·rw [Array.getElem?_setIfInBounds_ne (by omega), Array.getElem?_setIfInBounds_ne (by omega), Array.getElem?_setIfInBounds_self_of_lt (by rw [Array.size_setIfInBounds]; omega)]
  ·rw [Array.getElem?_setIfInBounds_ne (by omega), Array.getElem?_setIfInBounds_self_of_lt (by simp only [Array.size_setIfInBounds]; omega)]
  ·rw [Array.getElem?_setIfInBounds_self_of_lt (by simp only [Array.size_setIfInBounds]; omega)]
 ·rw [List.getElem?_set_ne (Ne.symm hji)] at hj
  have hh := h j q' hj
  rw [Nat.zero_add] at hh
  have key : ∀ k, k < 4 → (((((cs.setIfInBounds (i * 4) (.int .u8 (q.r.toNat : Int))).setIfInBounds (i * 4 + 1) (.int .u8 (q.g.toNat : Int))).setIfInBounds (i * 4 + 2) (.int .u8 (q.b.toNat : Int))).setIfInBounds (i * 4 + 3) (.int .u8 (q.a.toNat : Int))))[j * 4 + k]? = cs[j * 4 + k]? := fun k hk => by
   rw [Array.getElem?_setIfInBounds_ne (by omega), Array.getElem?_setIfInBounds_ne (by omega), Array.getElem?_setIfInBounds_ne (by omega), Array.getElem?_setIfInBounds_ne (by omega)]
  refine ⟨(Blk.cell hb4 _).trans ((key 0 (by omega)).trans ((Blk.cell hb _).symm.trans hh.1)), (Blk.cell hb4 _).trans ((key 1 (by omega)).trans ((Blk.cell hb _).symm.trans hh.2.1)), (Blk.cell hb4 _).trans ((key 2 (by omega)).trans ((Blk.cell hb _).symm.trans hh.2.2.1)), (Blk.cell hb4 _).trans ((key 3 (by omega)).trans ((Blk.cell hb _).symm.trans hh.2.2.2))⟩
/-- the block of an owned row -/
theorem OwnsQ.blk {w : World} {base g n c : Nat} {L : List Qc} (h : OwnsQ w base (.slice (some ⟨g, 0, none⟩) n c) L) : base ≤ g ∧ n = L.length ∧ ∃ cs, Blk w g 68 cs ∧ L.length * 4 ≤ cs.size := by
 rcases h.2 with ⟨e, _⟩ | ⟨g', cap, cur, e, hb, hg, hc, hm, hs, ht⟩
 ·cases e
 ·simp only [Value.slice.injEq, Option.some.injEq, Addr.mk.injEq] at e
  obtain ⟨⟨rfl, _⟩, rfl, rfl⟩ := e
  exact ⟨hb, rfl, cur, hg, by rw [hs]; exact Nat.mul_le_mul hc (Nat.le_refl 4)⟩
theorem OwnsQ.some_ {w : World} {base n : Nat} {v : Value} {L M : List Qc} (h : OwnsQ w base v L) (hM : L = M) (hn : n = M.length) (hp : 0 < n) : ∃ g c, v = .slice (some ⟨g, 0, none⟩) n c ∧ OwnsQ w base (.slice (some ⟨g, 0, none⟩) n c) M := by
 subst hM
 subst hn
 rcases h.form with ⟨_, rfl⟩ | ⟨g, c, rfl, _⟩
 ·simp at hp
 ·exact ⟨g, c, rfl, h⟩
theorem QAt.far {w : World} {g k i : Nat} {u : Value} {L : List Qc} (h : QAt w g 0 L) (hk : g ≠ k) : QAt (w.setCell ⟨k, i, none⟩ u) g 0 L := fun j q hj => by
 obtain ⟨h0, h1, h2, h3⟩ := h j q hj
 have e : ∀ o, (w.setCell ⟨k, i, none⟩ u).cell? ⟨g, o, none⟩ = w.cell? ⟨g, o, none⟩ := fun o => World.cell?_of_block (Below.heap_setCell w ⟨k, i, none⟩ u g hk)
 exact ⟨(e _).trans h0, (e _).trans h1, (e _).trans h2, (e _).trans h3⟩
end Go.Proofs.YtlehkgkomjojmaaGreat
namespace Go.Proofs.YtlehkgkomjojmaaGreat
open Go.RowKit
set_option linter.unusedVariables false

section
variable {P : Program} (w : World)
theorem run_append_own_src (base : Nat) (t tx ty e : TypeId) (i : TypeInfo) (z : Value) (size bytes : Nat) (ht : P.underlying t = some (.slice e)) (hi : P.info? e = some i) (hz : i.zero = some z)
  (hsize : i.size = size) (hby : i.bytes = bytes) (hzs : z.cells.size = size) (hsz : 0 < size)
  (v : Value) (n : Nat) (xs : List Value) (hown : w.ownsRow base e size v n xs)
  (x : Value) (m : Nat) (news : List Value) (hs : Src P size tx x m news w)
  (h63 : n + m ≤ maxLen) (hbytes : (n + m) * bytes ≤ 140737488355328) (hbase : base ≤ w.heap.size) :
  ∃ v' w', (Builtin.append_ #[t, tx] ty #[v, x]).run P w = .ok v' w' ∧ w'.ownsRow base e size v' (n + m) (xs ++ news) ∧ w.grownBy w' v.ownBlock ∧
   (v'.ownBlock = v.ownBlock ∨ v'.ownBlock = some w.heap.size) := by
 subst hsize
 subst hby
 have hl := hs.newsLen
 have hsmall : n + m ≤ 9223372036854775807 := by simp only [maxLen] at h63; omega
 have hlen : (xs ++ news).length = (n + m) * i.size := by rw [List.length_append, hown.1, hl, Nat.add_mul]
 have grown : ∀ (old : Nat), old < n + m → ∀ (row : Option Nat),
   (w.drew.alloc (.cells ((xs ++ news).toArray ++ Builtin.zeroCells z.cells (grownCap w (n + m) old e - (n + m))) e)).ownsRow base e i.size
    (.slice (some ⟨w.heap.size, 0, none⟩) (n + m) (grownCap w (n + m) old e)) (n + m) (xs ++ news) ∧
   w.grownBy (w.drew.alloc (.cells ((xs ++ news).toArray ++ Builtin.zeroCells z.cells (grownCap w (n + m) old e - (n + m))) e)) row := by
  intro old ho row
  have hge := grownCap_ge w (n + m) old e
  have hcm : grownCap w (n + m) old e ≤ maxLen := grownCap_le_maxLen w (n + m) old e h63
  refine ⟨⟨hlen, .inr ⟨w.heap.size, _, _, rfl, hbase, heap_alloc_new w.drew _, hge, hcm, ?_, ?_⟩⟩, ⟨rfl, rfl, rfl, by simp, fun k hk _ => Below.heap_alloc w.drew _ k hk⟩⟩
  ·simp only [Array.size_append, List.size_toArray, size_zeroCells, hzs, hlen, ← Nat.add_mul]
   congr 1
   omega
  ·simp only [Array.toList_append]
   rw [← hlen]
   exact List.take_left
 rcases hown.2 with ⟨rfl, rfl⟩ | ⟨g, cap, cur, rfl, hbg, hg, hnc, hcm, hcs, htake⟩
 ·have hx : xs = [] := List.eq_nil_of_length_eq_zero (by simpa using hown.1)
  subst hx
  by_cases hm : m = 0
  ·subst hm
   have hn : news = [] := List.eq_nil_of_length_eq_zero (by simpa using hl)
   subst hn
   refine ⟨.slice none 0 0, w, ?_, World.ownsRow_nil w base e i.size, ⟨rfl, rfl, rfl, Nat.le_refl _, fun _ _ _ => rfl⟩, .inl rfl⟩
   rcases hs.kind with ⟨e', hk⟩ | hk <;> simp [Builtin.append_, run_underlying ht, run_underlying hk, sizeOf, typeInfo, hi, hs.len, hs.cells]
  ·have hr := run_append_grow_src (P := P) w t tx ty e i z ht hi hz none 0 0 [] (by simp [Builtin.firstCells]) x m news hs (by omega) (by omega) (growslice_fits (by omega) (by have hb := hbytes; omega))
   have hgr := grown 0 (by omega) (Value.ownBlock (.slice none 0 0))
   simp only [Nat.zero_add, List.nil_append] at hgr hr ⊢
   exact ⟨_, _, hr, hgr.1, hgr.2, .inr rfl⟩
 ·by_cases hroom : n + m ≤ cap
  ·have hfit : n * i.size + news.length ≤ cur.size := by rw [hl, hcs, ← Nat.add_mul]; exact Nat.mul_le_mul_right _ hroom
   have hst := run_storeCells_at P g (n * i.size) e news 0 cur w hg (by simpa using hfit) hs.one
   simp only [Nat.add_zero] at hst
   have hr : (Builtin.append_ #[t, tx] ty #[.slice (some ⟨g, 0, none⟩) n cap, x]).run P w =
     .ok (.slice (some ⟨g, 0, none⟩) (n + m) cap) (w.setRow g (cur.toList.take (n * i.size) ++ news ++ cur.toList.drop (n * i.size + news.length)).toArray) := by
    rcases hs.kind with ⟨e', hk⟩ | hk <;> simp [Builtin.append_, run_underlying ht, run_underlying hk, sizeOf, typeInfo, hi, hs.len, hroom, hs.cells, Addr.add_lit, hst]
   refine ⟨_, _, hr, ⟨hlen, .inr ⟨g, cap, _, rfl, hbg, setRow_heap w g cur _ e _ hg, hroom, hcm, ?_, ?_⟩⟩, ⟨rfl, rfl, rfl, by simp, fun k _ hk => setRow_other w g k _ (fun e => hk (by simp [Value.ownBlock, e]))⟩, .inl rfl⟩
   ·simp only [List.size_toArray, List.length_append, List.length_take, List.length_drop, Array.length_toList]
    omega
   ·rw [htake, ← hlen]
    exact List.take_left
  ·have holds : ∀ j u, xs[j]? = some u → w.cell? ((⟨g, 0, none⟩ : Addr).add j) = some u := hown.cells (g := g) rfl
   have hold := run_firstCells_some (P := P) w.drew i.size n ⟨g, 0, none⟩ n cap xs hown.1 holds
   have hr := run_append_grow_src (P := P) w t tx ty e i z ht hi hz (some ⟨g, 0, none⟩) n cap xs hold x m news hs (by omega) (by omega) (growslice_fits (by omega) hbytes)
   have hgr := grown cap (by omega) (Value.ownBlock (.slice (some ⟨g, 0, none⟩) n cap))
   exact ⟨_, _, hr, hgr.1, hgr.2, .inr rfl⟩

theorem wpList_append_own_src {ops : Array Oper} {rest : List Oper} {o : Oper} {a : Act} {Q : Exit → Act → World → Prop} (hgd : o.guard = none) (s x : Operand) (t tx : TypeId)
  (ho : o.op = .call { callee := .builtin .append, args := #[s, x], argTypes := #[t, tx] })
  (base : Nat) (e : TypeId) (i : TypeInfo) (z : Value) (size bytes : Nat) (ht : P.underlying t = some (.slice e)) (hi : P.info? e = some i) (hz : i.zero = some z)
  (hsize : i.size = size) (hby : i.bytes = bytes) (hzs : z.cells.size = size) (hsz : 0 < size)
  (v : Value) (n : Nat) (xs : List Value) (hs : a.eval s = v) (hown : w.ownsRow base e size v n xs)
  (y : Value) (m : Nat) (news : List Value) (hx : a.eval x = y) (hsrc : Src P size tx y m news w)
  (h63 : n + m ≤ maxLen) (hbytes : (n + m) * bytes ≤ 140737488355328) (hbase : base ≤ w.heap.size)
  (h : ∀ v' w', w'.ownsRow base e size v' (n + m) (xs ++ news) → w.grownBy w' v.ownBlock → (v'.ownBlock = v.ownBlock ∨ v'.ownBlock = some w.heap.size) → wpList P ops Q rest (a.put o.dst v') w') : wpList P ops Q (o :: rest) a w := by
 refine wpList_plain hgd fun K hK => ?_
 obtain ⟨v', w', hr, h2, h3, h4⟩ := run_append_own_src (P := P) w base t tx o.type e i z size bytes ht hi hz hsize hby hzs hsz v n xs hown y m news hsrc h63 hbytes hbase
 unfold Oper.wp execOp
 simp only [ho, resolve, invoke, builtin, Sem.run_bind, Sem.run_pure, Result.andThen_ok, List.map_toArray, List.map_cons, List.map_nil, hs, hx, hr]
 exact hK _ _ (h v' w' h2 h3 h4)
end

/-- append(v, s...): a string's bytes onto bytes that the call owns -/
theorem wpList_append_str {ops : Array Oper} {rest : List Oper} {o : Oper} {a : Act} {Q : Exit → Act → World → Prop} {w : World} (hgd : o.guard = none) (s x : Operand)
  (ho : o.op = .call { callee := .builtin .append, args := #[s, x], argTypes := #[22, 9] })
  (base : Nat) (v : Value) (l : List UInt8) (hs : a.eval s = v) (hown : Owns8 w base v l)
  (r : ByteArray) (hx : a.eval x = .string r) (hlen : l.length + r.size < 1099511627776) (hbase : base ≤ w.heap.size)
  (h : ∀ v' w', Owns8 w' base v' (l ++ r.data.toList) → Below base w w' → w.grownBy w' v.ownBlock → wpList Tryz.prog ops Q rest (a.put o.dst v') w') : wpList Tryz.prog ops Q (o :: rest) a w := by
 obtain ⟨i0, hi, hz0, hz1, hz2⟩ := info_parts info8
 refine wpList_append_own_src (P := Tryz.prog) w hgd s x 22 9 ho base 5 i0 (.int .u8 0) 1 1 Tryz.underlying22 hi hz0 hz1 hz2 rfl (by decide) v l.length (C8 l) hs hown (.string r) r.size (byteCells r) hx (Src.ofString _ Tryz.underlying9 r) (by unfold maxLen; omega) (by omega) hbase ?_
 intro v' w' h1 h2 _
 refine h v' w' ?_ (hown.below (Below.refl _ _) (Nat.le_refl _) hbase h2) h2
 show World.ownsRow _ _ _ _ _ _ _
 have e : (l ++ r.data.toList).length = l.length + r.size := by rw [List.length_append, list_len]
 have e2 : C8 (l ++ r.data.toList) = C8 l ++ byteCells r := by simp [C8, byteCells]
 rw [e, e2]
 exact h1

end Go.Proofs.YtlehkgkomjojmaaGreat
namespace Go.Proofs.YtlehkgkomjojmaaGreat
open Go.RowKit
set_option linter.unusedVariables false
set_option linter.unusedSimpArgs false

end Go.Proofs.YtlehkgkomjojmaaGreat
