/- Bytes that the call owns, whose row may bear a conversion's mark behind its end; appends to them. -/
import Derived.Test.YthljhebbblhakaaGreatDoorEFfRef3
import Derived.Lib.ConvBytes
namespace Go.Proofs.YthljhebbblhakaaGreatDoor
open Go.RowKit
set_option linter.unusedVariables false
set_option linter.unusedSimpArgs false

/-- what is stored where no mark is -/
theorem storeCells_M (P : Program) (g o : Nat) (t : TypeId) (fz : Nat × Nat) : ∀ (vs : List Value) (i : Nat) (cur : Array Value) (w : World), w.heap[g]? = some (.cells cur t fz) → (fz.2 = 0 ∨ cur.size ≤ fz.1) → o + i + vs.length ≤ cur.size → (∀ v ∈ vs, v.oneCell' = true) →
    (storeCells ⟨g, o, none⟩ vs i).run P w = .ok () (w.setRow g (cur.toList.take (o + i) ++ vs ++ cur.toList.drop (o + i + vs.length)).toArray)
  | [], i, cur, w, hg, _, _, _ => by
    simp only [storeCells, List.append_nil, List.length_nil, Nat.add_zero, List.take_append_drop, Array.toArray_toList]
    rw [setRow_self w g cur t fz hg]
    rfl
  | v :: rest, i, cur, w, hg, hfz, hl, h1 => by
    have hi : o + i < cur.size := by simp at hl; omega
    have hadd : (⟨g, o, none⟩ : Addr).add i = ⟨g, o + i, none⟩ := by unfold Addr.add; split <;> simp_all
    have hcell : w.cell? ⟨g, o + i, none⟩ = some cur[o + i] := by simp [World.cell?, hg, hi]
    have hfro : w.frozen? ⟨g, o + i, none⟩ = false := by
      obtain ⟨lo, hi'⟩ := fz
      simp only [World.frozen?, hg, Bool.and_eq_false_iff, decide_eq_false_iff_not]
      simp only at hfz
      omega
    have hst : (store ((⟨g, o, none⟩ : Addr).add i) v).run P w = .ok () (w.setRow g (cur.setIfInBounds (o + i) v)) := by
      rw [hadd, run_store P w _ v _ (h1 v (by simp)), hcell]
      simp [hfro, setCell_eq_setRow w g (o + i) cur t fz v hg]
    have ih := storeCells_M P g o t fz rest (i + 1) (cur.setIfInBounds (o + i) v) (w.setRow g (cur.setIfInBounds (o + i) v)) (setRow_heap w g cur _ t _ hg) (by simpa using hfz) (by simp at hl ⊢; omega) (fun x hx => h1 x (by simp [hx]))
    simp only [storeCells, Sem.run_bind, hst, Result.andThen_ok, ih, setRow_setRow]
    congr 3
    have e := list_seg_step cur.toList (o + i) v rest (by simp at hl ⊢; omega)
    simpa [Array.toList_setIfInBounds, Nat.add_assoc] using e

/-- bytes that the call owns; a mark may stand behind the row's end -/
def OwnsM (w : World) (base : Nat) (v : Value) (l : List UInt8) : Prop :=
  ∃ g cap cur fz, v = .slice (some ⟨g, 0, none⟩) l.length cap ∧ base ≤ g ∧ w.heap[g]? = some (.cells cur 5 fz) ∧ (fz.2 = 0 ∨ cap ≤ fz.1) ∧ l.length ≤ cap ∧ cap ≤ maxLen ∧ cur.size = cap ∧ cur.toList.take l.length = C8 l

theorem OwnsM.lt {w : World} {base : Nat} {v : Value} {l : List UInt8} (h : OwnsM w base v l) : ∀ k, v.ownBlock = some k → base ≤ k ∧ k < w.heap.size := by
  obtain ⟨g, cap, cur, fz, rfl, hb, hg, _⟩ := h
  intro k hk
  simp [Value.ownBlock] at hk
  subst hk
  exact ⟨hb, (Array.getElem?_eq_some_iff.1 hg).1⟩
theorem OwnsM.cells {w : World} {base g n c : Nat} {l : List UInt8} (h : OwnsM w base (.slice (some ⟨g, 0, none⟩) n c) l) : ∀ (j : Nat) (u : Value), (C8 l)[j]? = some u → w.cell? ((⟨g, 0, none⟩ : Addr).add j) = some u := by
  obtain ⟨g', cap, cur, fz, hv, _, hgg, _, _, _, _, htake⟩ := h
  cases hv
  intro j u hu
  have hadd : (⟨g, 0, none⟩ : Addr).add j = ⟨g, j, none⟩ := by unfold Addr.add; split <;> simp_all
  rw [hadd, cell_of_row w g j cur _ fz hgg]
  rw [← htake, List.getElem?_take] at hu
  split at hu
  · simpa using hu
  · cases hu
theorem OwnsM.kept {w w' : World} {base : Nat} {v : Value} {l : List UInt8} {row : Option Nat} (h : OwnsM w base v l) (hg : w.grownBy w' row) (hne : v.ownBlock ≠ row) : OwnsM w' base v l := by
  obtain ⟨g, cap, cur, fz, rfl, hb, hgg, r⟩ := h
  refine ⟨g, cap, cur, fz, rfl, hb, ?_, r⟩
  rw [hg.block g (Array.getElem?_eq_some_iff.1 hgg).1 (by simpa [Value.ownBlock] using hne)]
  exact hgg
theorem OwnsM.below_ {w w' : World} {base : Nat} {v : Value} {l : List UInt8} (h : OwnsM w base v l) (hb : Below w.heap.size w w') : OwnsM w' base v l := by
  obtain ⟨g, cap, cur, fz, rfl, h1, hgg, r⟩ := h
  refine ⟨g, cap, cur, fz, rfl, h1, ?_, r⟩
  rw [hb.block g (Array.getElem?_eq_some_iff.1 hgg).1]
  exact hgg
theorem OwnsM.drew {w : World} {base : Nat} {v : Value} {l : List UInt8} (h : OwnsM w base v l) : OwnsM w.drew base v l := h
theorem OwnsM.drewN {w : World} {base : Nat} {v : Value} {l : List UInt8} (h : OwnsM w base v l) (n : Nat) : OwnsM (w.drewN n) base v l := h
theorem OwnsM.below {w w' : World} {base B : Nat} {v : Value} {l : List UInt8} (h : OwnsM w base v l) {a : World} (hb : Below B a w) (hB : B ≤ base) (hg : w.grownBy w' v.ownBlock) : Below B a w' :=
  hb.grown hg (by have := h; obtain ⟨g, cap, cur, fz, rfl, h1, hgg, r⟩ := this; have := (Array.getElem?_eq_some_iff.1 hgg).1; omega) fun k hk => Nat.le_trans hB (h.lt k hk).1

/-- a text's bytes, as the conversion lays them -/
theorem OwnsM.ofBytes (w : World) (s : ByteArray) (hs : s.size ≤ 1000000) : OwnsM (Lib.bytesWorld w 5 s) w.heap.size (.slice (some ⟨w.heap.size, 0, none⟩) s.size (grownCap w s.size 0 5)) s.data.toList := by
  have hge := grownCap_ge w s.size 0 5
  have hcm : grownCap w s.size 0 5 ≤ maxLen := grownCap_le_maxLen w s.size 0 5 (by unfold maxLen; omega)
  have hcs : (Lib.bytesCells w 5 s).size = grownCap w s.size 0 5 := by
    unfold Lib.bytesCells
    have : s.data.size = s.size := rfl
    simp only [Array.size_append, Array.size_map, Array.size_replicate, this]
    omega
  refine ⟨_, _, _, _, by rw [list_len], Nat.le_refl _, Lib.bytesWorld_at_new w _ s, .inr (by rw [hcs]; exact Nat.le_refl _), by rw [list_len]; exact hge, hcm, hcs, ?_⟩
  unfold Lib.bytesCells C8
  have e : (s.data.map fun b => Value.int .u8 (b.toNat : Int)).toList = s.data.toList.map fun b => Value.int .u8 (b.toNat : Int) := Array.toList_map
  rw [Array.toList_append, e]
  have hl : s.data.toList.length = (s.data.toList.map fun b => Value.int .u8 (b.toNat : Int)).length := by rw [List.length_map]
  rw [hl]
  exact List.take_left

section
variable {P : Program} (w : World)
theorem run_append_M (base : Nat) (t tx ty : TypeId) (i : TypeInfo) (ht : P.underlying t = some (.slice 5)) (hi : P.info? 5 = some i) (hz : i.zero = some (.int .u8 0))
    (hsize : i.size = 1) (hby : i.bytes = 1)
    (v : Value) (l : List UInt8) (hown : OwnsM w base v l)
    (x : Value) (m : Nat) (news : List UInt8) (hs : Src P 1 tx x m (C8 news) w)
    (h63 : l.length + m < 1099511627776) (hbase : base ≤ w.heap.size) :
    ∃ v' w', (Builtin.append_ #[t, tx] ty #[v, x]).run P w = .ok v' w' ∧ OwnsM w' base v' (l ++ news) ∧ w.grownBy w' v.ownBlock := by
  have hl : (C8 news).length = m := by simpa using hs.newsLen
  have hl2 : news.length = m := by simpa [C8] using hl
  have hlen : (l ++ news).length = l.length + m := by rw [List.length_append, hl2]
  have hc8 : C8 (l ++ news) = C8 l ++ C8 news := by simp [C8]
  have hcl : (C8 l).length = l.length := by simp [C8]
  have hown' := hown
  obtain ⟨g, cap, cur, fz, rfl, hbg, hg, hfz, hnc, hcm, hcs, htake⟩ := hown
  by_cases hroom : l.length + m ≤ cap
  · have hst := storeCells_M P g l.length 5 fz (C8 news) 0 cur w hg (by rw [hcs]; exact hfz) (by rw [hl]; omega) hs.one
    simp only [Nat.add_zero] at hst
    have hr : (Builtin.append_ #[t, tx] ty #[.slice (some ⟨g, 0, none⟩) l.length cap, x]).run P w =
        .ok (.slice (some ⟨g, 0, none⟩) (l.length + m) cap) (w.setRow g (cur.toList.take l.length ++ C8 news ++ cur.toList.drop (l.length + (C8 news).length)).toArray) := by
      rcases hs.kind with ⟨e', hk⟩ | hk <;> simp [Builtin.append_, run_underlying ht, run_underlying hk, sizeOf, typeInfo, hi, hsize, hs.len, hroom, hs.cells, Addr.add_lit, hst]
    refine ⟨_, _, hr, ⟨g, cap, _, fz, by rw [hlen], hbg, setRow_heap w g cur _ _ _ hg, hfz, by rw [hlen]; exact hroom, hcm, ?_, ?_⟩, ⟨rfl, rfl, rfl, by simp, fun k _ hk => setRow_other w g k _ (fun e => hk (by simp [Value.ownBlock, e]))⟩⟩
    · simp only [List.size_toArray, List.length_append, List.length_take, List.length_drop, Array.length_toList]
      omega
    · show ((cur.toList.take l.length ++ C8 news ++ cur.toList.drop _).toArray).toList.take _ = _
      rw [htake, hc8, hlen, ← hl, ← hcl, ← List.length_append]
      exact List.take_left
  · have holds := hown'.cells
    have hold := run_firstCells_some (P := P) w.drew 1 l.length ⟨g, 0, none⟩ l.length cap (C8 l) (by rw [hcl, Nat.mul_one]) holds
    rw [← hsize] at hold hs
    have hr := run_append_grow_src (P := P) w t tx ty 5 i (.int .u8 0) ht hi hz (some ⟨g, 0, none⟩) l.length cap (C8 l) hold x m (C8 news) hs (by omega) (by omega) (growslice_fits (by omega) (by rw [hby]; omega))
    have hge := grownCap_ge w (l.length + m) cap 5
    have hcm2 : grownCap w (l.length + m) cap 5 ≤ maxLen := grownCap_le_maxLen w (l.length + m) cap 5 (by unfold maxLen; omega)
    refine ⟨_, _, hr, ⟨w.heap.size, _, _, (0, 0), by rw [hlen], hbase, heap_alloc_new w.drew _, .inl rfl, by rw [hlen]; exact hge, hcm2, ?_, ?_⟩, ⟨rfl, rfl, rfl, by simp, fun k hk _ => Below.heap_alloc w.drew _ k hk⟩⟩
    · have hz1 : (Value.int IntKind.u8 0).cells.size = 1 := rfl
      simp only [Array.size_append, List.size_toArray, size_zeroCells, hz1, List.length_append, hcl, hl]
      omega
    · simp only [Array.toList_append]
      rw [hlen, hc8, ← hl, ← hcl, ← List.length_append]
      exact List.take_left
end
/-- append(v, s...) -/
theorem wpList_append_strM {ops : Array Oper} {rest : List Oper} {o : Oper} {a : Act} {Q : Exit → Act → World → Prop} {w : World} (hgd : o.guard = none) (s x : Operand)
    (ho : o.op = .call { callee := .builtin .append, args := #[s, x], argTypes := #[22, 9] })
    (base : Nat) (v : Value) (l : List UInt8) (hs : a.eval s = v) (hown : OwnsM w base v l)
    (r : ByteArray) (hx : a.eval x = .string r) (hlen : l.length + r.size < 1099511627776) (hbase : base ≤ w.heap.size)
    (h : ∀ v' w', OwnsM w' base v' (l ++ r.data.toList) → Below base w w' → wpList Tryz.prog ops Q rest (a.put o.dst v') w') : wpList Tryz.prog ops Q (o :: rest) a w := by
  obtain ⟨i0, hi, hz0, hz1, hz2⟩ := info_parts info8
  refine wpList_plain hgd fun K hK => ?_
  obtain ⟨v', w', hr, h2, h3⟩ := run_append_M (P := Tryz.prog) w base 22 9 o.type i0 Tryz.underlying22 hi hz0 hz1 hz2 v l hown (.string r) r.size r.data.toList (Src.ofString _ Tryz.underlying9 r) hlen hbase
  unfold Oper.wp execOp
  simp only [ho, resolve, invoke, builtin, Sem.run_bind, Sem.run_pure, Result.andThen_ok, List.map_toArray, List.map_cons, List.map_nil, hs, hx, hr]
  exact hK _ _ (h v' w' h2 (hown.below (Below.refl _ _) (Nat.le_refl _) h3))
/-- string(v) -/
theorem run_convert_M {w : World} {base : Nat} {v : Value} {l : List UInt8} (h : OwnsM w base v l) (dst : TypeId) (hd : Tryz.prog.underlying dst = some .string) :
    (convert 22 dst v).run Tryz.prog w = .ok (.string (strOf l)) w := by
  have h' := h
  obtain ⟨g, cap, cur, fz, rfl, _⟩ := h
  exact run_convert_bytes_back w 22 dst 5 _ cap l Tryz.underlying22 Tryz.underlying5 hd fun j hj => h'.cells j _ (by simp [C8, List.getElem?_eq_getElem hj])
theorem wpList_convert_M {ops : Array Oper} {rest : List Oper} {o : Oper} {a : Act} {Q : Exit → Act → World → Prop} {w : World} (hgd : o.guard = none) (x : Operand) (dst : TypeId) (hd : Tryz.prog.underlying dst = some .string)
    (ho : o.op = .convert 22 dst x) (base : Nat) (v : Value) (l : List UInt8) (hx : a.eval x = v) (hown : OwnsM w base v l)
    (h : wpList Tryz.prog ops Q rest (a.put o.dst (.string (strOf l))) w) : wpList Tryz.prog ops Q (o :: rest) a w := by
  refine wpList_plain hgd fun K hK => ?_
  have hrun := run_convert_M hown dst hd
  unfold Oper.wp
  simp [execOp, ho, hx, hrun, Result.andThen]
  exact hK _ _ h
end Go.Proofs.YthljhebbblhakaaGreatDoor
