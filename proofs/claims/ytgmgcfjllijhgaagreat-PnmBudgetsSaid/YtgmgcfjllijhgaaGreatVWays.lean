/- A source's Take; a pixel's change that the budget refuses; a fault's box. Colours; rows of colours in memory. Readings told with all their ways at once: what a budget refuses, what is too short, what is read; a pixel's change; a raster in the making. -/
import Derived.Test.YtgmgcfjllijhgaaGreatVBits
import Derived.Test.YtgmgcfjllijhgaaGreatVRas
import Derived.Test.YtgmgcfjllijhgaaGreatVSync
import Derived.Deep.OwnRows
import Derived.Test.YtgmgcfjllijhgaaGreatVPnmHead
namespace Go.Proofs.YtgmgcfjllijhgaaGreat
open Go.RowKit
set_option linter.unusedVariables false
set_option linter.unusedSimpArgs false

set_option maxRecDepth 100000 in
set_option maxHeartbeats 1000000 in
/-- a pixel's change that the budget refuses -/
theorem rasSet_spent {w : World} {r g b d : Nat} {l : List UInt8} {x y : Led} {X Y W H p i : Nat} {c0 c1 c2 c3 : UInt8} (h : RasAt w r g b (W : Int) (H : Int) true) (hm : BufAt w b g d l) (hL : LedAt w g x) (ok : x.Ok) (he : x.work 1 = (y, false)) (hX : X < W) (hY : Y < H) (hp : Y * W = p) (hi : 4 * (p + X) = i) (hp1 : p ≤ 1073741824) (hW : W ≤ 16384) (hH : H ≤ 16384) (hl : i + 4 ≤ l.length) (hs : l.length ≤ 1099511627776) :
  Calls Tryz.prog 69 #[.pointer (some ⟨r, 0, none⟩), .int .i64 (X : Int), .int .i64 (Y : Int), .agg #[.int .u8 (c0.toNat : Int), .int .u8 (c1.toNat : Int), .int .u8 (c2.toNat : Int), .int .u8 (c3.toNat : Int)]] w fun e w' => e = .returned (.bool false) ∧ LedAt w' g y ∧ Turn [g] w w' := by
 have hbg := hm.bg hL
 have hdg := hm.dg hL
 have hbd := hm.bd
 have hrg : r ≠ g := Blk.ne_ h hL (by decide)
 have hrd : r ≠ d := Blk.ne_ h hm.row (by decide)
 obtain ⟨wb, hwb⟩ : ∃ wb, wb = w.alloc (.cells #[.int .u8 (c0.toNat : Int), .int .u8 (c1.toNat : Int), .int .u8 (c2.toNat : Int), .int .u8 (c3.toNat : Int)] 59) := ⟨_, rfl⟩
 have h1 : RasAt wb r g b (W : Int) (H : Int) true := hwb ▸ Blk.alloc h _
 have m1 : BufAt wb b g d l := hwb ▸ ⟨hm.blk.alloc _, hm.row.alloc _⟩
 have l1 : LedAt wb g x := hwb ▸ Blk.alloc hL _
 have k1 : CB wb w.heap.size c0.toNat c1.toNat c2.toNat c3.toNat := hwb ▸ Blk.new _ _ _
 have t1 : Turn [g] w wb := hwb ▸ (Turn.refl _ _).alloc _
 have hgl := Blk.lt hL
 have HA := Lib.hid (rasAt_yes h1 hX hY hp hi hp1 hW hH)
 have HR := Lib.hid h1
 have HM := Lib.hid m1
 have HL := Lib.hid l1
 have HK := Lib.hid k1
 have HT := Lib.hid t1
 have HOK := Lib.hid ok
 have HE := Lib.hid he
 have HLL := Lib.hid hl
 have d0 := h1.l
 rw [hwb] at HA HR HM HL HK HT d0
 obtain ⟨i0, i1, i2, i3⟩ := idx4 (.int .u8 (c0.toNat : Int)) (.int .u8 (c1.toNat : Int)) (.int .u8 (c2.toNat : Int)) (.int .u8 (c3.toNat : Int))
 obtain ⟨j1, hj1⟩ : ∃ j, j = i + 1 := ⟨_, rfl⟩
 obtain ⟨j2, hj2⟩ : ∃ j, j = i + 2 := ⟨_, rfl⟩
 obtain ⟨j3, hj3⟩ : ∃ j, j = i + 3 := ⟨_, rfl⟩
 have e1 : (i : Int) + 1 = (j1 : Int) := by omega
 have e2 : (i : Int) + 2 = (j2 : Int) := by omega
 have e3 : (i : Int) + 3 = (j3 : Int) := by omega
 have hib : i ≤ 1099511627776 := by omega
 have HJ := Lib.hid (And.intro hj1 (And.intro hj2 hj3))
 have rl := Blk.lt h
 clear h hm hL ok he h1 m1 l1 k1 t1 hp hi hl hwb hj1 hj2 hj3
 go_enter Tryz.func69, Tryz.ntmps69
 go_wp2_with (first
  | (go_at_call 90; refine HA.out.mono ?_; rintro e w9 ⟨rfl, rfl⟩)
  | (go_at_call 91; refine (work_at HL.out HOK.out HE.out).mono ?_; rintro e w1 ⟨rfl, l2, b1⟩; have t2 : Turn [g] _ w1 := Turn.of_grown b1 (by simp); have R2 : RasAt w1 r g b (W : Int) (H : Int) true := Blk.turn HR.out t2 (by simpa using hrg); have M2 : BufAt w1 b g d l := HM.out.turn t2 (by simpa using hbg) (by simpa using hdg); have K2 : CB w1 w.heap.size c0.toNat c1.toNat c2.toNat c3.toNat := Blk.turn HK.out t2 (by simp; omega); have T2 : Turn [g] w w1 := HT.out.trans t2))
 go_ret
 exact ⟨rfl, l2, T2⟩
/-- a fault's box -/
def fl3 (k f a : Int) : Array Value := #[.int .i64 k, .int .i64 f, .int .i64 a]
def FB (w : World) (b : Nat) (k f a : Int) : Prop := Blk w b 34 (fl3 k f a)
def st3 (w : World) (b : Nat) (u v x : Value) : World := ((w.setCell ⟨b, 0, none⟩ u).setCell ⟨b, 1, none⟩ v).setCell ⟨b, 2, none⟩ x
section
variable {w w' a : World} {b g : Nat} {k f i k' f' i' : Int} {t : TypeId} {cs : Array Value} {u v x : Value} {S : List Nat}
theorem FB.new (w : World) : FB (w.alloc (.cells #[.int .i64 0, .int .i64 0, .int .i64 0] 34)) w.heap.size 0 0 0 := Blk.new _ _ _
theorem FB.st3 (h : FB w b k f i) : FB (st3 w b (.int .i64 k') (.int .i64 f') (.int .i64 i')) b k' f' i' := ((Blk.set_ (Blk.set_ (Blk.set_ h 0 _) 1 _) 2 _)).eq_ (by simp [fl3])
theorem FB.all (h : FB w b k f i) : w.cell? ⟨b, 0, none⟩ = some (.int .i64 k) ∧ w.cell? ⟨b, 1, none⟩ = some (.int .i64 f) ∧ w.cell? ⟨b, 2, none⟩ = some (.int .i64 i) ∧ w.frozen? ⟨b, 0, none⟩ = false ∧ w.frozen? ⟨b, 1, none⟩ = false ∧ w.frozen? ⟨b, 2, none⟩ = false ∧ b < w.heap.size :=
 ⟨Blk.cell h 0, Blk.cell h 1, Blk.cell h 2, Blk.frozen h 0, Blk.frozen h 1, Blk.frozen h 2, Blk.lt h⟩
theorem FB.turn (h : FB w b k f i) (t : Turn S w w') (hb : b ∉ S) : FB w' b k f i := Blk.turn h t hb
theorem FB.below (h : FB w b k f i) (t : Below w.heap.size w w') : FB w' b k f i := Blk.below h t (Blk.lt h)
theorem Blk.st3 (h : Blk w g t cs) (hb : g ≠ b) : Blk (st3 w b u v x) g t cs := Blk.far (Blk.far (Blk.far h (p := ⟨b, 0, none⟩) hb _) (p := ⟨b, 1, none⟩) hb _) (p := ⟨b, 2, none⟩) hb _
theorem Turn.st3 (h : Turn S a w) (hb : b ∈ S ∨ a.heap.size ≤ b) : Turn S a (st3 w b u v x) := ((h.set_ 0 u hb).set_ 1 v hb).set_ 2 x hb
end
end Go.Proofs.YtgmgcfjllijhgaaGreat
namespace Go.Proofs.YtgmgcfjllijhgaaGreat
open Go.RowKit
set_option linter.unusedVariables false
set_option linter.unusedSimpArgs false

structure Qc where
 r : UInt8
 g : UInt8
 b : UInt8
 a : UInt8
deriving DecidableEq
def Qc.list (q : Qc) : List UInt8 := [q.r, q.g, q.b, q.a]
def Qc.v (q : Qc) : Value := .agg #[.int .u8 (q.r.toNat : Int), .int .u8 (q.g.toNat : Int), .int .u8 (q.b.toNat : Int), .int .u8 (q.a.toNat : Int)]
def flat (L : List Qc) : List UInt8 := (L.map Qc.list).flatten
theorem flat_len (L : List Qc) : (flat L).length = 4 * L.length := by
 induction L with
 | nil => rfl
 | cons q L ih =>
  simp only [flat, List.map_cons, List.flatten_cons, List.length_append, List.length_cons] at ih ⊢
  rw [ih]
  simp [Qc.list]
  omega
theorem flat_append (L M : List Qc) : flat (L ++ M) = flat L ++ flat M := by simp [flat]
def Qc.cells (q : Qc) : List Value := [.int .u8 (q.r.toNat : Int), .int .u8 (q.g.toNat : Int), .int .u8 (q.b.toNat : Int), .int .u8 (q.a.toNat : Int)]
def cq (L : List Qc) : List Value := (L.map Qc.cells).flatten
theorem cq_len (L : List Qc) : (cq L).length = L.length * 4 := by
 induction L with
 | nil => rfl
 | cons q L ih =>
  simp only [cq, List.map_cons, List.flatten_cons, List.length_append, List.length_cons] at ih ⊢
  rw [ih]
  simp [Qc.cells]
  omega
theorem cq_append (L M : List Qc) : cq (L ++ M) = cq L ++ cq M := by simp [cq]
theorem cq_at (L : List Qc) (i j : Nat) (q : Qc) (h : L[i]? = some q) (hj : j < 4) : (cq L)[i * 4 + j]? = q.cells[j]? := by
 induction L generalizing i with
 | nil => simp at h
 | cons x L ih =>
  have e : cq (x :: L) = x.cells ++ cq L := by simp [cq]
  have hx4 : x.cells.length = 4 := rfl
  cases i with
  | zero =>
   have hx : x = q := by simpa using h
   subst hx
   rw [e, Nat.zero_mul, Nat.zero_add, List.getElem?_append_left (by omega)]
  | succ i =>
   rw [e, List.getElem?_append_right (by omega), hx4, show (i + 1) * 4 + j - 4 = i * 4 + j by omega]
   exact ih i (by simpa using h)
theorem cq_one_cell {L : List Qc} {u : Value} (h : u ∈ cq L) : u.oneCell' = true := by
 simp only [cq, List.mem_flatten, List.mem_map] at h
 obtain ⟨l, ⟨q, _, rfl⟩, hu⟩ := h
 simp only [Qc.cells, List.mem_cons, List.not_mem_nil, or_false] at hu
 rcases hu with rfl | rfl | rfl | rfl <;> rfl
def OwnsQ (w : World) (base : Nat) (v : Value) (L : List Qc) : Prop := w.ownsRow base 59 4 v L.length (cq L)
/-- four cells a colour, from an address on -/
def QAt (w : World) (b off : Nat) (L : List Qc) : Prop := ∀ i q, L[i]? = some q → w.cell? ⟨b, off + i * 4, none⟩ = some (.int .u8 (q.r.toNat : Int)) ∧ w.cell? ⟨b, off + i * 4 + 1, none⟩ = some (.int .u8 (q.g.toNat : Int)) ∧ w.cell? ⟨b, off + i * 4 + 2, none⟩ = some (.int .u8 (q.b.toNat : Int)) ∧ w.cell? ⟨b, off + i * 4 + 3, none⟩ = some (.int .u8 (q.a.toNat : Int))
section
variable {w w' : World} {base : Nat} {v : Value} {L : List Qc}
theorem OwnsQ.alloc (h : OwnsQ w base v L) (o : Obj) : OwnsQ (w.alloc o) base v L := World.ownsRow.alloc h o
theorem OwnsQ.kept {row : Option Nat} (h : OwnsQ w base v L) (hg : w.grownBy w' row) (hne : v.ownBlock = none ∨ v.ownBlock ≠ row) : OwnsQ w' base v L := World.ownsRow.kept h hg hne
theorem OwnsQ.below (h : OwnsQ w base v L) (hb : Below w.heap.size w w') : OwnsQ w' base v L :=
 h.kept (row := none) ⟨hb.os, hb.tape, hb.output, hb.size, fun i hi _ => hb.block i hi⟩ (by cases v.ownBlock <;> simp)
theorem OwnsQ.turn {S : List Nat} (o : OwnsQ w base v L) (k : Turn S w w') (hS : ∀ i ∈ S, ∃ t cs, Blk w i t cs ∧ t ≠ 59) : OwnsQ w' base v L := by
 refine ⟨o.1, ?_⟩
 rcases o.2 with h | ⟨r, cap, cur, hv, hb, hr, h4, h5, h6, h7⟩
 ·exact .inl h
 ·refine .inr ⟨r, cap, cur, hv, hb, ?_, h4, h5, h6, h7⟩
  exact Blk.turn hr k (fun hm => by obtain ⟨t, cs, hbk, hn⟩ := hS r hm; exact Blk.ne_ hbk hr hn rfl)
theorem OwnsQ.form (h : OwnsQ w base v L) : (v = .slice none 0 0 ∧ L = []) ∨ ∃ g cap, v = .slice (some ⟨g, 0, none⟩) L.length cap ∧ base ≤ g ∧ g < w.heap.size ∧ L.length ≤ cap ∧ QAt w g 0 L := by
 rcases h.2 with ⟨rfl, hn⟩ | ⟨g, cap, cur, rfl, hb, hg, hc, hm, hs, ht⟩
 ·exact .inl ⟨rfl, List.eq_nil_of_length_eq_zero hn⟩
 ·refine .inr ⟨g, cap, rfl, hb, (World.ownsRow.lt h g rfl).2, hc, fun i q hi => ?_⟩
  have hil := (List.getElem?_eq_some_iff.1 hi).1
  have key : ∀ j, j < 4 → w.cell? ⟨g, i * 4 + j, none⟩ = q.cells[j]? := fun j hj => by
   rw [cell_of_row w g (i * 4 + j) cur _ (0, 0) hg, ← Array.getElem?_toList, ← cq_at L i j q hi hj, ← ht, List.getElem?_take_of_lt (by omega)]
  rw [Nat.zero_add]
  exact ⟨key 0 (by omega), key 1 (by omega), key 2 (by omega), key 3 (by omega)⟩
end
theorem infoQ : (Tryz.prog.info? 59).map (fun i => (i.zero, i.size, i.bytes)) = some (some (.agg #[.int .u8 0, .int .u8 0, .int .u8 0, .int .u8 0]), 4, 4) := by kernel_rfl
/-- append of colours that lie in memory -/
theorem wpList_append_cols {ops : Array Oper} {rest : List Oper} {o : Oper} {a : Act} {Q : Exit → Act → World → Prop} {w : World} (hgd : o.guard = none) (s x : Operand)
  (ho : o.op = .call { callee := .builtin .append, args := #[s, x], argTypes := #[26, 26] })
  (base : Nat) (v : Value) (L : List Qc) (hs : a.eval s = v) (hown : OwnsQ w base v L)
  (g n c : Nat) (M : List Qc) (hn : n = M.length) (hx : a.eval x = .slice (some ⟨g, 0, none⟩) n c) (hM : QAt w g 0 M)
  (hlen : L.length + M.length < 1099511627776) (hbase : base ≤ w.heap.size)
  (h : ∀ v' w', OwnsQ w' base v' (L ++ M) → Below base w w' → w.grownBy w' v.ownBlock → wpList Tryz.prog ops Q rest (a.put o.dst v') w') : wpList Tryz.prog ops Q (o :: rest) a w := by
 obtain ⟨i0, hi, hz0, hzs, hzb⟩ := info_parts infoQ
 subst hn
 refine wpList_append_own (P := Tryz.prog) w hgd s x 26 ho base 59 i0 _ 4 4 Tryz.underlying26 hi hz0 hzs hzb rfl (by decide) v L.length (cq L) hs hown ⟨g, 0, none⟩ M.length c (cq M) hx (cq_len M) ?_ (fun u hu => cq_one_cell hu) (by unfold maxLen; omega) (by omega) hbase ?_
 ·intro j u hj
  have hjl : j < (cq M).length := (List.getElem?_eq_some_iff.1 hj).1
  rw [cq_len] at hjl
  obtain ⟨qq, hq⟩ : ∃ qq, M[j / 4]? = some qq := ⟨_, List.getElem?_eq_getElem (show j / 4 < M.length by omega)⟩
  have e := hM (j / 4) _ hq
  have ej : j / 4 * 4 + j % 4 = j := by omega
  have hc := cq_at M (j / 4) (j % 4) _ hq (by omega)
  rw [ej, hj] at hc
  rw [show (⟨g, 0, none⟩ : Addr).add j = ⟨g, j, none⟩ by unfold Addr.add; split <;> simp_all]
  rw [Nat.zero_add] at e
  have h4 : j % 4 < 4 := by omega
  generalize j % 4 = r at h4 ej hc
  rw [hc, ← ej]
  match r, h4 with
  | 0, _ => exact e.1
  | 1, _ => exact e.2.1
  | 2, _ => exact e.2.2.1
  | 3, _ => exact e.2.2.2
 ·intro v' w' h1 h2 _
  refine h v' w' ?_ ((Below.refl _ _).grown h2 hbase fun k hk => (World.ownsRow.lt hown k hk).1) h2
  show World.ownsRow _ _ _ _ _ _ _
  rw [List.length_append, cq_append]
  exact h1
theorem q_new (w : World) (q : Qc) : QAt (w.alloc (.cells #[.int .u8 (q.r.toNat : Int), .int .u8 (q.g.toNat : Int), .int .u8 (q.b.toNat : Int), .int .u8 (q.a.toNat : Int)] 59)) w.heap.size 0 [q] := by
 intro i q' hi
 cases i with
 | zero =>
  have : q = q' := by simpa using hi
  subst this
  exact ⟨cell_new _ _ _ 0 _ rfl, cell_new _ _ _ 1 _ rfl, cell_new _ _ _ 2 _ rfl, cell_new _ _ _ 3 _ rfl⟩
 | succ i => simp at hi
theorem QAt.below {w w' : World} {b off : Nat} {C : List Qc} (h : QAt w b off C) (hb : Below w.heap.size w w') : QAt w' b off C := fun i q hi => by
 obtain ⟨h0, h1, h2, h3⟩ := h i q hi
 have hl := World.block_lt_of_cell? w _ h0
 exact ⟨(hb.cell (p := ⟨b, off + i * 4, none⟩) hl).trans h0, (hb.cell (p := ⟨b, off + i * 4 + 1, none⟩) hl).trans h1, (hb.cell (p := ⟨b, off + i * 4 + 2, none⟩) hl).trans h2, (hb.cell (p := ⟨b, off + i * 4 + 3, none⟩) hl).trans h3⟩
theorem Blk.grownQ {w w' : World} {base k : Nat} {t : TypeId} {cs : Array Value} {v : Value} {L : List Qc} (h : Blk w k t cs) (o : OwnsQ w base v L) (ht : t ≠ 59) (hg : w.grownBy w' v.ownBlock) : Blk w' k t cs :=
 h.grown hg (fun e => by
  rcases o.2 with ⟨rfl, _⟩ | ⟨r, cap, cur, rfl, _, hr, _⟩
  ·cases e
  ·have hk : k = r := by simpa [Value.ownBlock] using e
   subst hk
   exact Blk.ne_ h hr ht rfl)
theorem OwnsQ.slice {w : World} {base : Nat} {v : Value} {L : List Qc} (h : OwnsQ w base v L) : ∃ a c, v = .slice a L.length c := by
 rcases h.form with ⟨rfl, rfl⟩ | ⟨g, cap, rfl, _⟩
 ·exact ⟨none, 0, rfl⟩
 ·exact ⟨_, _, rfl⟩
theorem OwnsQ.at_ {w : World} {base g n c : Nat} {L : List Qc} (h : OwnsQ w base (.slice (some ⟨g, 0, none⟩) n c) L) : QAt w g 0 L := by
 rcases h.form with ⟨e, rfl⟩ | ⟨g', cap, e, _, _, _, hq⟩
 ·cases e
 ·simp only [Value.slice.injEq, Option.some.injEq, Addr.mk.injEq] at e
  rw [e.1.1]
  exact hq
end Go.Proofs.YtgmgcfjllijhgaaGreat
namespace Go.Proofs.YtgmgcfjllijhgaaGreat
open Go.RowKit
set_option linter.unusedVariables false
set_option linter.unusedSimpArgs false

/-- a reading that failed: its fault's kind and place -/
def NoRead (y : Led) (a t kk aa : Nat) : Prop := (y.reason ≠ 0 ∧ kk = 4 ∧ aa = a) ∨ (y.reason = 0 ∧ kk = 1 ∧ aa = t)
theorem NoRead.ne {y : Led} {a t kk aa : Nat} (h : NoRead y a t kk aa) : kk ≠ 0 := by rcases h with ⟨_, rfl, _⟩ | ⟨_, rfl, _⟩ <;> decide
theorem led_work_ways {x : Led} (n : Int) (ok : x.Ok) (hx : x.reason = 0) : (∃ y, x.work n = (y, false) ∧ y.Ok ∧ y.reason ≠ 0 ∧ y.bytes = x.bytes) ∨ (∃ y, x.work n = (y, true) ∧ y.Ok ∧ y.reason = 0 ∧ y.bytes = x.bytes) := by
 obtain ⟨y, v, hw⟩ : ∃ y v, x.work n = (y, v) := ⟨_, _, rfl⟩
 have yok : y.Ok := by have := ok.work n; rw [hw] at this; exact this
 cases v with
 | false =>
  have yno := led_work_no (x := x) (n := n) (by rw [hw]) hx
  rw [hw] at yno
  have e : y = x.refused 3 n := yno
  exact .inl ⟨y, hw, yok, by rw [e]; simp [Led.refused], by rw [e]; rfl⟩
 | true =>
  obtain ⟨_, h1, h2, _⟩ := led_work_yes (x := x) (n := n) (by rw [hw])
  rw [hw] at h1 h2
  exact .inr ⟨y, hw, yok, h1, h2⟩
/-- what a refused or a short reading makes of the rest -/
def NoRun (x y : Led) (a t : Nat) (c : Prop) [Decidable c] (kk aa : Nat) : Prop := ∀ z k, (Dec.work 1 z a (if c then k else .give z (.fin (.bad 1 t)))).run x = ((y.give (z : Int)).1, .bad kk aa)
theorem noRun_spent {x y : Led} {a t : Nat} {c : Prop} [Decidable c] (e : x.work 1 = (y, false)) : NoRun x y a t c 4 a := by
 intro z k
 exact run_work_no e
theorem noRun_short {x y : Led} {a t : Nat} {c : Prop} [Decidable c] (e : x.work 1 = (y, true)) (h : ¬ c) : NoRun x y a t c 1 t := by
 intro z k
 rw [run_work_yes e, if_neg h]
 rfl
section
variable {w w' : World} {p g : Nat} {s : ByteArray} {f t a : Nat} {x y : Led}
/-- the ways of a reading of n bytes: what is told -/
def ReadPost (w w' : World) (p g : Nat) (s : ByteArray) (f t a n : Nat) (x : Led) (e : Ending) (no yes : Value) : Prop :=
 ∃ y, LedAt w' g y ∧ y.Ok ∧ y.bytes = x.bytes ∧ Turn [p, g] w w' ∧
  ((∃ kk aa, e = .returned (.tuple #[no, .bool false]) ∧ SrcAt w' p g s f t a ∧ NoRead y a t kk aa ∧ NoRun x y a t (a + n ≤ t) kk aa) ∨
   (e = .returned (.tuple #[yes, .bool true]) ∧ SrcAt w' p g s f t (a + n) ∧ y.reason = 0 ∧ a + n ≤ t ∧ x.work 1 = (y, true)))
theorem srcU8_ways (h : SrcAt w p g s f t a) (o : SrcOk s f t a) (k : LedAt w g x) (ok : x.Ok) (hx : x.reason = 0) :
  Calls Tryz.prog 79 #[.pointer (some ⟨p, 0, none⟩)] w fun e w' => ReadPost w w' p g s f t a 1 x e (.int .i64 0) (.int .i64 (bat s a : Int)) := by
 rcases led_work_ways 1 ok hx with ⟨y, e, yok, yr, yb⟩ | ⟨y, e, yok, yr, yb⟩
 ·refine (srcU8_spent h k ok e).mono ?_
  rintro e' w' ⟨rfl, q1, q2, q3⟩
  exact ⟨y, q2, yok, yb, q3, .inl ⟨4, a, rfl, q1, .inl ⟨yr, rfl, rfl⟩, noRun_spent e⟩⟩
 ·by_cases ha : a < t
  ·refine (srcU8_yes h o k ok e ha).mono ?_
   rintro e' w' ⟨rfl, q1, q2, q3⟩
   exact ⟨y, q2, yok, yb, q3, .inr ⟨rfl, q1, yr, ha, e⟩⟩
  ·refine (srcU8_short h o k ok e ha).mono ?_
   rintro e' w' ⟨rfl, q1, q2, q3⟩
   exact ⟨y, q2, yok, yb, q3, .inl ⟨1, t, rfl, q1, .inr ⟨yr, rfl, rfl⟩, noRun_short e ha⟩⟩
theorem srcFault_is {kk aa : Nat} (m : Int) (h : SrcAt w p g s f t a) (k : LedAt w g x) (hk : NoRead x a t kk aa) :
  Calls Tryz.prog 50 #[.pointer (some ⟨p, 0, none⟩), .int .i64 m] w fun e w' => e = .returned (.agg #[.int .i64 (kk : Int), .int .i64 m, .int .i64 (aa : Int)]) ∧ Below w.heap.size w w' := by
 rcases hk with ⟨hx, rfl, rfl⟩ | ⟨hx, rfl, rfl⟩
 ·exact srcFault_spent m h k hx
 ·exact srcFault_short m h k hx
end
/-- the ways of a pixel's change: what is told -/
def SetPost (w w' : World) (b g d i : Nat) (l q : List UInt8) (x : Led) (e : Ending) : Prop :=
 ∃ y, LedAt w' g y ∧ y.Ok ∧ y.bytes = x.bytes ∧
  ((e = .returned (.bool false) ∧ Turn [g] w w' ∧ y.reason ≠ 0 ∧ ∀ z a k, (Dec.work 1 z a k).run x = ((y.give (z : Int)).1, .bad 4 a)) ∨
   (e = .returned (.bool true) ∧ Turn [g, d] w w' ∧ BufAt w' b g d (over l i q) ∧ y.reason = 0 ∧ ∀ z a k, (Dec.work 1 z a k).run x = k.run y))
theorem rasSet_ways {w : World} {r g b d : Nat} {l : List UInt8} {x : Led} {X Y W H p i : Nat} {c0 c1 c2 c3 : UInt8} (h : RasAt w r g b (W : Int) (H : Int) true) (hm : BufAt w b g d l) (hL : LedAt w g x) (ok : x.Ok) (hx : x.reason = 0) (hX : X < W) (hY : Y < H) (hp : Y * W = p) (hi : 4 * (p + X) = i) (hp1 : p ≤ 1073741824) (hW : W ≤ 16384) (hH : H ≤ 16384) (hl : i + 4 ≤ l.length) (hs : l.length ≤ 1099511627776) :
  Calls Tryz.prog 69 #[.pointer (some ⟨r, 0, none⟩), .int .i64 (X : Int), .int .i64 (Y : Int), .agg #[.int .u8 (c0.toNat : Int), .int .u8 (c1.toNat : Int), .int .u8 (c2.toNat : Int), .int .u8 (c3.toNat : Int)]] w fun e w' => SetPost w w' b g d i l [c0, c1, c2, c3] x e := by
 rcases led_work_ways 1 ok hx with ⟨y, e, yok, yr, yb⟩ | ⟨y, e, yok, yr, yb⟩
 ·refine (rasSet_spent h hm hL ok e hX hY hp hi hp1 hW hH hl hs).mono ?_
  rintro e' w' ⟨rfl, q1, q2⟩
  exact ⟨y, q1, yok, yb, .inl ⟨rfl, q2, yr, fun z a k => run_work_no e⟩⟩
 ·refine (rasSet_yes h hm hL ok e hX hY hp hi hp1 hW hH hl hs).mono ?_
  rintro e' w' ⟨rfl, q1, q2, q3⟩
  exact ⟨y, q2, yok, yb, .inr ⟨rfl, q3, q1, yr, fun z a k => run_work_yes e⟩⟩
/-- a raster in the making: source, ledger, raster, bytes, a fault's box -/
structure PixI (w0 w : World) (p g r b d f fr t a W H : Nat) (s : ByteArray) (l : List UInt8) (x : Led) : Prop where
 S : SrcAt w p g s fr t a
 L : LedAt w g x
 R : RasAt w r g b (W : Int) (H : Int) true
 B : BufAt w b g d l
 F : FB w f 0 0 0
 T : Turn [p, g, d] w0 w
 nf : w0.heap.size ≤ f
section
variable {w0 w w' : World} {p g r b d f fr t a a' W H : Nat} {s : ByteArray} {l l' : List UInt8} {x y : Led} {i : Nat} {tt : TypeId} {cs : Array Value}
theorem PixI.take (P : PixI w0 w p g r b d f fr t a W H s l x) (k : Turn [p, g] w w') (s' : SrcAt w' p g s fr t a') (l' : LedAt w' g y) : PixI w0 w' p g r b d f fr t a' W H s l y := by
 obtain ⟨S, L, R, B, F, T, nf⟩ := P
 refine ⟨s', l', Blk.turn R k ?_, B.turn k ?_ ?_, F.turn k ?_, T.trans (k.mono (by simp)), nf⟩
 all_goals simp only [List.mem_cons, List.not_mem_nil, or_false, not_or]
 ·exact ⟨Blk.ne_ R S (by decide), Blk.ne_ R L (by decide)⟩
 ·exact ⟨Blk.ne_ B.blk S (by decide), Blk.ne_ B.blk L (by decide)⟩
 ·exact ⟨Blk.ne_ B.row S (by decide), Blk.ne_ B.row L (by decide)⟩
 ·exact ⟨Blk.ne_ F S (by decide), Blk.ne_ F L (by decide)⟩
theorem PixI.led (P : PixI w0 w p g r b d f fr t a W H s l x) (k : Turn [g] w w') (l' : LedAt w' g y) : PixI w0 w' p g r b d f fr t a W H s l y :=
 P.take (k.mono (by simp)) (P.S.turn k (by simpa using Blk.ne_ P.S P.L (by decide))) l'
theorem PixI.set (P : PixI w0 w p g r b d f fr t a W H s l x) (k : Turn [g, d] w w') (b' : BufAt w' b g d l') (m : LedAt w' g y) : PixI w0 w' p g r b d f fr t a W H s l' y := by
 obtain ⟨S, L, R, B, F, T, nf⟩ := P
 refine ⟨S.turn k ?_, m, Blk.turn R k ?_, b', F.turn k ?_, T.trans (k.mono (by simp)), nf⟩
 all_goals simp only [List.mem_cons, List.not_mem_nil, or_false, not_or]
 ·exact ⟨Blk.ne_ S L (by decide), Blk.ne_ S B.row (by decide)⟩
 ·exact ⟨Blk.ne_ R L (by decide), Blk.ne_ R B.row (by decide)⟩
 ·exact ⟨Blk.ne_ F L (by decide), Blk.ne_ F B.row (by decide)⟩
/-- a step on a new block of another type -/
theorem PixI.own (P : PixI w0 w p g r b d f fr t a W H s l x) {k : Nat} (hk : Blk w k tt cs) (hn : w0.heap.size ≤ k) (u : Turn [k] w w') (h1 : tt ≠ 113) (h2 : tt ≠ 103) (h3 : tt ≠ 127) (h4 : tt ≠ 158) (h5 : tt ≠ 5) (h6 : tt ≠ 34) : PixI w0 w' p g r b d f fr t a W H s l x := by
 obtain ⟨S, L, R, B, F, T, nf⟩ := P
 exact ⟨S.turn u (by simpa using Blk.ne_ S hk h1.symm), L.turn u (by simpa using Blk.ne_ L hk h2.symm), Blk.turn R u (by simpa using Blk.ne_ R hk h3.symm), B.turn u (by simpa using Blk.ne_ B.blk hk h4.symm) (by simpa using Blk.ne_ B.row hk h5.symm), F.turn u (by simpa using Blk.ne_ F hk h6.symm), T.next u (fun i hi => .inr (by simp only [List.mem_cons, List.not_mem_nil, or_false] at hi; omega)), nf⟩
theorem PixI.below (P : PixI w0 w p g r b d f fr t a W H s l x) (k : Below w.heap.size w w') : PixI w0 w' p g r b d f fr t a W H s l x :=
 P.take (Turn.of_below k) (Blk.below P.S k (Blk.lt P.S)) (Blk.below P.L k (Blk.lt P.L))
theorem PixI.drew (P : PixI w0 w p g r b d f fr t a W H s l x) : PixI w0 w.drew p g r b d f fr t a W H s l x := ⟨P.S, P.L, P.R, ⟨P.B.blk, P.B.row⟩, P.F, P.T.drew, P.nf⟩
theorem PixI.alloc (P : PixI w0 w p g r b d f fr t a W H s l x) (o : Obj) : PixI w0 (w.alloc o) p g r b d f fr t a W H s l x := P.below ((Below.refl _ _).alloc (Nat.le_refl _) _)
end
/-- what a reading of pixels leaves: ledger, raster, bytes -/
structure PixE (w0 w : World) (p g r b d W H z : Nat) (l : List UInt8) (y : Led) : Prop where
 L : LedAt w g y
 R : RasAt w r g b (W : Int) (H : Int) true
 B : BufAt w b g d l
 len : l.length = z
 ok : y.Ok
 y1 : (z : Int) ≤ y.bytes
 T : Turn [p, g, d] w0 w
theorem PixI.fin {w0 w : World} {p g r b d f fr t a W H z : Nat} {s : ByteArray} {l : List UInt8} {x : Led} {u v e : Value} (P : PixI w0 w p g r b d f fr t a W H s l x) (hl : l.length = z) (ok : x.Ok) (hb : (z : Int) ≤ x.bytes) : PixE w0 (st3 w f u v e) p g r b d W H z l x :=
 ⟨Blk.st3 P.L (Blk.ne_ P.L P.F (by decide)), Blk.st3 P.R (Blk.ne_ P.R P.F (by decide)), ⟨Blk.st3 P.B.blk (Blk.ne_ P.B.blk P.F (by decide)), Blk.st3 P.B.row (Blk.ne_ P.B.row P.F (by decide))⟩, hl, ok, hb, Turn.st3 P.T (.inr P.nf)⟩
/-- a raster whose first pixels are told -/
def pixL (L : List Qc) (z : Nat) : List UInt8 := flat L ++ List.replicate (z - 4 * L.length) 0
theorem pixL_len {L : List Qc} {z : Nat} (h : 4 * L.length ≤ z) : (pixL L z).length = z := by
 unfold pixL
 rw [List.length_append, flat_len, List.length_replicate]
 omega
theorem over_at {a b : List UInt8} {z : Nat} (ha : a.length = z) (q : List UInt8) (hb : q.length ≤ b.length) : over (a ++ b) z q = a ++ q ++ b.drop q.length := by
 subst ha
 unfold over
 rw [List.take_left, ← List.drop_drop, List.drop_left]
theorem pixL_next {L : List Qc} {z : Nat} (c : Qc) (h : 4 * (L.length + 1) ≤ z) : over (pixL L z) (4 * L.length) [c.r, c.g, c.b, c.a] = pixL (L ++ [c]) z := by
 unfold pixL
 rw [over_at (flat_len L) _ (by simp only [List.length_cons, List.length_nil, List.length_replicate]; omega), flat_append, List.drop_replicate]
 have e : flat [c] = [c.r, c.g, c.b, c.a] := by simp [flat, Qc.list]
 rw [e, List.length_append]
 congr 2
theorem pixL_nil (z : Nat) : pixL [] z = List.replicate z 0 := by unfold pixL; simp [flat]
theorem pixL_all {L : List Qc} {z : Nat} (h : 4 * L.length = z) : pixL L z = flat L := by unfold pixL; rw [h, Nat.sub_self]; simp
end Go.Proofs.YtgmgcfjllijhgaaGreat
