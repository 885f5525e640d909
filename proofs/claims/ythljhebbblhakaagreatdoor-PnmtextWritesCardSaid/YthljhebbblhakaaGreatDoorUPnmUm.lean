/- Writing PNM as text: may. -/
import Derived.Test.YthljhebbblhakaaGreatDoorEWords
import Derived.Test.YthljhebbblhakaaGreatDoorProg
import Derived.WalkKit
import Derived.WalkSpells
import Derived.WalkLawsBesides
import Derived.Lib.Hide
import Derived.Laws.OwnMore
import Derived.Deep.AppendLies
import Derived.Deep.Draws
import Derived.Deep.Onto
import Derived.Deep.AppendSrc
import Derived.Deep.QuietTactic
import Derived.BigQuiet
import Derived.Deep.LoopGhost
import Derived.Deep.CutBlock
import Derived.Deep.DeepCutAuto
import Derived.Deep.Light
import Derived.Deep.RegionWith
import Derived.Test.YthljhebbblhakaaGreatDoorESync
import Derived.Defers
import Derived.Laws.Pointers
import Derived.Laws.LoneSync
import Derived.Laws.NewBlocks
import Derived.RegionTactic
import Derived.RegionCalls
import Derived.ChangeAlike
import Derived.Laws.Rows
import Derived.StillTailTactics
import Derived.Test.YthljhebbblhakaaGreatDoorEBits
import Derived.Laws.BitsAllLaws
import Derived.Laws.BitsLemmas
import Derived.Test.YthljhebbblhakaaGreatDoorEPnmHead
import Derived.Test.YthljhebbblhakaaGreatDoorETok
import Derived.WalkMore
import Derived.ScopeJumps
import Derived.Test.YthljhebbblhakaaGreatDoorEPnmD
import Derived.Test.YthljhebbblhakaaGreatDoorEPnmBst
import Derived.Deep.OwnRows
import Derived.Test.YthljhebbblhakaaGreatDoorEPnmEnc
import Derived.Lib.ItoaNum
import Derived.Test.YthljhebbblhakaaGreatDoorEPnmEnd
import Derived.Test.YthljhebbblhakaaGreatDoorETok2
import Derived.Test.YthljhebbblhakaaGreatDoorETok3
import Derived.Test.YthljhebbblhakaaGreatDoorETok4
import Derived.Test.YthljhebbblhakaaGreatDoorENum
import Derived.Test.YthljhebbblhakaaGreatDoorUPnmW
import Derived.Lib.Mul64
import Derived.Laws.Bits64b
import Derived.Test.YthljhebbblhakaaGreatDoorEBuf
import Derived.Lib.BufferWrite
import Derived.Test.YthljhebbblhakaaGreatDoorERas
import Derived.Test.YthljhebbblhakaaGreatDoorEPnmW
import Derived.Test.YthljhebbblhakaaGreatDoorEPnmKind
import Derived.Test.YthljhebbblhakaaGreatDoorEPnmH
import Derived.Test.YthljhebbblhakaaGreatDoorEPnmStage
import Derived.Test.YthljhebbblhakaaGreatDoorEPnmR
import Derived.Test.YthljhebbblhakaaGreatDoorEPnmR2
import Derived.Test.YthljhebbblhakaaGreatDoorEPnmHd
import Derived.Test.YthljhebbblhakaaGreatDoorEOpenInts
import Derived.ProofKit
import Derived.OpenShut
import Derived.Deep.Slices
import Derived.Test.YthljhebbblhakaaGreatDoorEScaler
import Derived.Test.YthljhebbblhakaaGreatDoorEFfRef3
import Derived.Test.YthljhebbblhakaaGreatDoorUFfD
import Derived.Deep.RegionHeld3
import Derived.ArgAppend
import Derived.Lib.SlBytesConst
import Derived.Deep.RegionLaw
import Derived.Test.YthljhebbblhakaaGreatDoorEFfM
import Derived.Lib.ConvBytes
import Derived.Lib.SliceRun
import Derived.BigRegion
import Derived.Deep.Fields
import Derived.ChangeSame
import Derived.Lib.SmallJoins
import Derived.Test.YthljhebbblhakaaGreatDoorEPnmWb
import Derived.Test.YthljhebbblhakaaGreatDoorPnmShelf
import Derived.Lib.AppendIntMem
import Derived.Test.YthljhebbblhakaaGreatDoorEPnmWc
import Derived.Test.YthljhebbblhakaaGreatDoorETgaKm
import Derived.Test.YthljhebbblhakaaGreatDoorEPnmWd
import Derived.Test.YthljhebbblhakaaGreatDoorEPnmDocs
import Derived.Test.YthljhebbblhakaaGreatDoorUPnmT
import Derived.Test.YthljhebbblhakaaGreatDoorEPnmWg
import Derived.Lib.ItoaMem
import Derived.CellFam
namespace Go.Proofs.YthljhebbblhakaaGreatDoor
open Go.RowKit
set_option linter.unusedVariables false
set_option linter.unusedSimpArgs false

/-- rows of numbers are kept -/
def KeepI (w w' : World) : Prop := ∀ g cs, Blk w g 3 cs → Blk w' g 3 cs
theorem KeepI.trans {w w1 w2 : World} (h : KeepI w w1) (h2 : KeepI w1 w2) : KeepI w w2 := fun g cs b => h2 g cs (h g cs b)
theorem KeepI.of_below {w w' : World} (b : Below w.heap.size w w') : KeepI w w' := fun g cs h => Blk.below h b (Blk.lt h)
theorem KeepI.of_grown {w w' : World} {base : Nat} {v : Value} {l : List UInt8} (h : OwnsM w base v l) (hg : w.grownBy w' v.ownBlock) : KeepI w w' := by
  intro g cs hB
  obtain ⟨g0, cap, cur, fz, rfl, hb, hgg, r⟩ := h
  have hne : g ≠ g0 := by
    intro e
    subst e
    have hB' : w.heap[g]? = _ := hB
    rw [hgg] at hB'
    injection hB' with hB'
    injection hB' with _ h2 _
    exact absurd h2 (by decide)
  have := hg.block g (Blk.lt hB) (by simp [Value.ownBlock]; omega)
  exact this.trans hB
theorem wpList_append_strK {ops : Array Oper} {rest : List Oper} {o : Oper} {a : Act} {Q : Exit → Act → World → Prop} {w : World} (hgd : o.guard = none) (s x : Operand)
    (ho : o.op = .call { callee := .builtin .append, args := #[s, x], argTypes := #[22, 9] })
    (base : Nat) (v : Value) (l : List UInt8) (hs : a.eval s = v) (hown : OwnsM w base v l)
    (r : ByteArray) (hx : a.eval x = .string r) (hlen : l.length + r.size < 1099511627776) (hbase : base ≤ w.heap.size)
    (h : ∀ v' w', OwnsM w' base v' (l ++ r.data.toList) → Below base w w' → KeepI w w' → wpList Tryz.prog ops Q rest (a.put o.dst v') w') : wpList Tryz.prog ops Q (o :: rest) a w := by
  obtain ⟨i0, hi, hz0, hz1, hz2⟩ := info_parts info8
  refine wpList_plain hgd fun K hK => ?_
  obtain ⟨v', w', hr, h2, h3⟩ := run_append_M (P := Tryz.prog) w base 22 9 o.type i0 Tryz.underlying22 hi hz0 hz1 hz2 v l hown (.string r) r.size r.data.toList (Src.ofString _ Tryz.underlying9 r) hlen hbase
  unfold Oper.wp execOp
  simp only [ho, resolve, invoke, builtin, Sem.run_bind, Sem.run_pure, Result.andThen_ok, List.map_toArray, List.map_cons, List.map_nil, hs, hx, hr]
  exact hK _ _ (h v' w' h2 (hown.below (Below.refl _ _) (Nat.le_refl _) h3) (KeepI.of_grown hown h3))
theorem wpList_append_sliceK {ops : Array Oper} {rest : List Oper} {o : Oper} {a : Act} {Q : Exit → Act → World → Prop} {w : World} (hgd : o.guard = none) (s x : Operand)
    (ho : o.op = .call { callee := .builtin .append, args := #[s, x], argTypes := #[22, 22] })
    (base : Nat) (v : Value) (l : List UInt8) (hs : a.eval s = v) (hown : OwnsM w base v l)
    (g n c : Nat) (r : List UInt8) (hn : r.length = n) (hx : a.eval x = .slice (some ⟨g, 0, none⟩) n c) (hc : ∀ (j : Nat) (b : UInt8), r[j]? = some b → w.cell? ⟨g, j, none⟩ = some (.int .u8 (b.toNat : Int)))
    (hlen : l.length + n < 1099511627776) (hbase : base ≤ w.heap.size)
    (h : ∀ v' w', OwnsM w' base v' (l ++ r) → Below base w w' → KeepI w w' → wpList Tryz.prog ops Q rest (a.put o.dst v') w') : wpList Tryz.prog ops Q (o :: rest) a w := by
  obtain ⟨i0, hi, hz0, hz1, hz2⟩ := info_parts info8
  subst hn
  refine wpList_plain hgd fun K hK => ?_
  have src : Src Tryz.prog 1 22 (.slice (some ⟨g, 0, none⟩) r.length c) r.length (C8 r) w := Src.ofSlice _ Tryz.underlying22 ⟨g, 0, none⟩ r.length c (C8 r) (by simp [C8]) (fun j u hj => by
    unfold C8 at hj
    rw [List.getElem?_map] at hj
    obtain ⟨b, hb, rfl⟩ := Option.map_eq_some_iff.1 hj
    rw [addrAdd, Nat.zero_add]
    exact hc j b hb) (fun u hu => by unfold C8 at hu; obtain ⟨b, _, rfl⟩ := List.mem_map.1 hu; rfl)
  obtain ⟨v', w', hr, h2, h3⟩ := run_append_M (P := Tryz.prog) w base 22 22 o.type i0 Tryz.underlying22 hi hz0 hz1 hz2 v l hown (.slice (some ⟨g, 0, none⟩) r.length c) r.length r src hlen hbase
  unfold Oper.wp execOp
  simp only [ho, resolve, invoke, builtin, Sem.run_bind, Sem.run_pure, Result.andThen_ok, List.map_toArray, List.map_cons, List.map_nil, hs, hx, hr]
  exact hK _ _ (h v' w' h2 (hown.below (Below.refl _ _) (Nat.le_refl _) h3) (KeepI.of_grown hown h3))
set_option maxRecDepth 100000 in
set_option maxHeartbeats 4000000 in
theorem appSmall {u base : Nat} {v : Value} {l : List UInt8} {w : World} (hu : u < 100) (hown : OwnsM w base v l) (hlen : l.length + 20 < 1099511627776) : Calls Tryz.prog 68 #[v, .int .u64 (u : Int), .int .i64 10] w fun e w' => ∃ v', e = .returned v' ∧ OwnsM w' base v' (l ++ dg u) ∧ Below base w w' ∧ KeepI w w' := by
  have hsz : (⟨(Lib.decDigits u).toArray⟩ : ByteArray).size ≤ 20 := by
    show (Lib.decDigits u).toArray.size ≤ 20
    rw [List.size_toArray, Lib.decDigits_length]
    by_cases h10 : u < 10
    · rw [Lib.nDigits_small h10]; omega
    · rw [Lib.nDigits_big h10, Lib.nDigits_small (show u / 10 < 10 by omega)]; omega
  have hbs := hown.size
  have huI : (u : Int) < 100 := by omega
  have HO := Lib.hid hown
  clear hown
  go_enter Tryz.func68, Tryz.ntmps68
  go_wp2_with (first
    | (go_at_call 91; refine (Tryz.internal_strconv_small u hu _).mono ?_; rintro e w' ⟨rfl, rfl⟩)
    | (at_builtin; refine wpList_append_strK rfl (.tmp 13) (.tmp 16) rfl base _ _ rfl HO.out ⟨(Lib.decDigits u).toArray⟩ rfl (by omega) hbs ?_; intro v9 w9 o9 b9 k9))
  go_ret
  exact ⟨_, rfl, o9, b9, k9⟩
set_option maxRecDepth 100000 in
set_option maxHeartbeats 12800000 in
theorem appBig {u base : Nat} {v : Value} {l : List UInt8} {w : World} (hu : 100 ≤ u) (hu2 : u ≤ 1000) (hT : TabW w) (hown : OwnsM w base v l) (hlen : l.length + 20 < 1099511627776) : Calls Tryz.prog 68 #[v, .int .u64 (u : Int), .int .i64 10] w fun e w' => ∃ v', e = .returned v' ∧ OwnsM w' base v' (l ++ dg u) ∧ Below base w w' ∧ KeepI w w' := by
  have hu1 : 1 ≤ u := by omega
  have hu64 : u < 18446744073709551616 := by omega
  have hnd20 : Lib.nDigits u ≤ 20 := by have := Lib.numDigits_eq u hu1 hu64; split at this <;> omega
  have hal : Tryz.prog.arrayLen 152 = 24 := by kernel_rfl
  have hsl : ∀ W, (Instr.sliceAt 152 (.pointer (some ⟨w.heap.size, 0, none⟩)) none (some (.int .i64 (Lib.nDigits u : Int))) none).run Tryz.prog W = .ok (.slice (some ⟨w.heap.size, 0, none⟩) (Lib.nDigits u) 24) W := fun W => by
    rw [run_sliceAt_array_h W 152 ⟨w.heap.size, 0, none⟩ (by kernel_rfl) .i64 (Lib.nDigits u : Int) (by omega) (by rw [hal]; omega)]
    go_simp
  have hH0 := Lib.holds_zero0 w 152 (Lib.nDigits u) (by omega)
  have hfmt := Tryz.internal_strconv_formatBase10 w.heap.size 0 24 u (Array.replicate (Lib.nDigits u) 0) (w.alloc (.cells Lib.zeros24 152)) hH0 (by rw [Array.size_replicate]; exact Lib.lt_pow_nDigits u) hu64 (by rw [Array.size_replicate]; omega)
  rw [Array.size_replicate] at hfmt
  have HH0 := Lib.hid hH0
  have iu : (100 : Int) ≤ (u : Int) := by omega
  have HT := Lib.hid hT
  have HO := Lib.hid hown
  have hbs := hown.size
  clear hH0 hal hown hT
  go_enter Tryz.func68, Tryz.ntmps68
  go_wp2_with (first
    | (go_at_call 92; refine (Tryz.internal_strconv_numDigits u hu1 hu64 _ (Lib.tabIs_alloc HT.out _)).mono ?_; rintro e w' ⟨rfl, rfl⟩))
  go_at_call 93
  refine hfmt.mono ?_
  rintro e w' ⟨rfl, k, v', dk, rfl, hF⟩
  have hcells : ∀ (j : Nat) (b : UInt8), (dg u)[j]? = some b → ((Go.Sort.putRow (fun (b : UInt8) => Value.int .u8 (b.toNat : Int)) (w.alloc (.cells Lib.zeros24 152)) w.heap.size 0 dk).drewN k).cell? ⟨w.heap.size, j, none⟩ = some (.int .u8 (b.toNat : Int)) := by
    intro j b hj
    obtain ⟨hjl, rfl⟩ := List.getElem?_eq_some_iff.1 hj
    have hjl' : j < (Lib.decDigits u).length := hjl
    have h := Go.Sort.cell?_putRow (fun (b : UInt8) => Value.int .u8 (b.toNat : Int)) (w.alloc (.cells Lib.zeros24 152)) w.heap.size 0 _ dk HH0.out (by rw [hF.size, Array.size_replicate]) j (by rw [hF.size]; rw [Lib.decDigits_length] at hjl'; exact hjl')
    rw [World.cell?_drewN]
    show World.cell? _ _ = some (Value.int .u8 ((Lib.decDigits u)[j].toNat : Int))
    rw [Lib.row_is_numeral hF j hjl']
    rw [Nat.zero_add] at h
    exact h
  obtain ⟨os, eo⟩ := Lib.fin_at w (.cells Lib.zeros24 152) dk k 0
  have hb2 : Below w.heap.size w ((Go.Sort.putRow (fun (b : UInt8) => Value.int .u8 (b.toNat : Int)) (w.alloc (.cells Lib.zeros24 152)) w.heap.size 0 dk).drewN k) := by rw [eo]; exact Lib.below_grow w.heap.size w (Nat.le_refl _) k os
  generalize (Go.Sort.putRow (fun (b : UInt8) => Value.int .u8 (b.toNat : Int)) (w.alloc (.cells Lib.zeros24 152)) w.heap.size 0 dk).drewN k = W2 at hcells hb2 ⊢
  have hdl : (dg u).length = Lib.nDigits u := Lib.decDigits_length u
  have hown2 := HO.out.below_ hb2
  have hbs2 := hown2.size
  clear eo HH0 hfmt
  go_wp2_with (at_builtin; refine wpList_append_sliceK rfl (.tmp 24) (.tmp 26) rfl base _ _ rfl hown2 w.heap.size (Lib.nDigits u) 24 (dg u) hdl rfl hcells (by omega) hbs2 ?_; intro v9 w9 o9 b9 k9)
  go_ret
  exact ⟨_, rfl, o9, (hb2.mono hbs).trans b9, (KeepI.of_below hb2).trans k9⟩
theorem appUint {u base : Nat} {v : Value} {l : List UInt8} {w : World} (hu2 : u ≤ 1000) (hT : TabW w) (hown : OwnsM w base v l) (hlen : l.length + 20 < 1099511627776) : Calls Tryz.prog 68 #[v, .int .u64 (u : Int), .int .i64 10] w fun e w' => ∃ v', e = .returned v' ∧ OwnsM w' base v' (l ++ dg u) ∧ Below base w w' ∧ KeepI w w' := by
  by_cases h : u < 100
  · exact appSmall h hown hlen
  · exact appBig (by omega) hu2 hT hown hlen
set_option maxHeartbeats 4000000 in
theorem appInt0 {u base : Nat} {v : Value} {l : List UInt8} {w : World} (hu2 : u ≤ 1000) (hT : TabW w) (hown : OwnsM w base v l) (hlen : l.length + 20 < 1099511627776) : Calls Tryz.prog 47 #[v, .int .i64 (u : Int), .int .i64 10] w fun e w' => ∃ v', e = .returned v' ∧ OwnsM w' base v' (l ++ dg u) ∧ Below base w w' ∧ KeepI w w' := by
  have HA := Lib.hid (appUint hu2 hT hown hlen)
  have h0 : ¬ (u : Int) < 0 := by omega
  have hw : IntKind.u64.wrap (u : Int) = (u : Int) := IntWalk.u64_in _ (by omega)
  clear hT hown
  go_enter Tryz.func47, Tryz.ntmps47
  go_wp2_with (go_at_call 68; refine HA.out.mono ?_; rintro e w1 ⟨v1, rfl, o1, b1, k1⟩)
  go_ret
  exact ⟨_, rfl, o1, b1, k1⟩
set_option maxHeartbeats 4000000 in
theorem appInt {u base : Nat} {v : Value} {l : List UInt8} {w : World} (hu2 : u ≤ 1000) (hT : TabW w) (hown : OwnsM w base v l) (hlen : l.length + 20 < 1099511627776) : Calls Tryz.prog 29 #[v, .int .i64 (u : Int), .int .i64 10] w fun e w' => ∃ v', e = .returned v' ∧ OwnsM w' base v' (l ++ dg u) ∧ Below base w w' ∧ KeepI w w' := by
  have HA := Lib.hid (appInt0 hu2 hT hown hlen)
  clear hT hown
  go_enter Tryz.func29, Tryz.ntmps29
  go_wp2_with (go_at_call 47; refine HA.out.mono ?_; rintro e w1 ⟨v1, rfl, o1, b1, k1⟩)
  go_ret
  exact ⟨_, rfl, o1, b1, k1⟩
end Go.Proofs.YthljhebbblhakaaGreatDoor
namespace Go.Proofs.YthljhebbblhakaaGreatDoor
open Go.RowKit
set_option linter.unusedVariables false
set_option linter.unusedSimpArgs false

/-- a pixel's numbers -/
def smp (K : Nat) (q : Qc) : List Nat := if K = 1 then [1 - q.r.toNat / 255] else if K = 2 then [q.r.toNat] else [q.r.toNat, q.g.toNat, q.b.toNat]
theorem smp_le {K : Nat} {q : Qc} {i t : Nat} (h : (smp K q)[i]? = some t) : t ≤ 255 := by
  have h1 := q.r.toNat_lt
  have h2 := q.g.toNat_lt
  have h3 := q.b.toNat_lt
  have hm := List.mem_of_getElem? h
  unfold smp at hm
  split at hm
  · simp at hm; omega
  · split at hm
    · simp at hm; omega
    · simp at hm; omega
theorem smp_pos (K : Nat) (q : Qc) : 1 ≤ (smp K q).length ∧ (smp K q).length ≤ 3 := by
  unfold smp
  split
  · simp
  · split <;> simp
set_option maxRecDepth 100000 in
set_option maxHeartbeats 4000000 in
theorem samplesC {K : Nat} (hK : K = 1 ∨ K = 2 ∨ K = 3) (q : Qc) (w : World) : Calls Tryz.prog 28 #[q.v, .int .i64 (K : Int)] w fun e w' => ∃ g, e = .returned (.slice (some ⟨g, 0, none⟩) (smp K q).length (smp K q).length) ∧ Blk w' g 3 ((smp K q).map fun (t : Nat) => Value.int .i64 (t : Int)).toArray ∧ Below w.heap.size w w' := by
  have h1 := q.r.toNat_lt
  have h2 := q.g.toNat_lt
  have h3 := q.b.toNat_lt
  have w1 : IntKind.i64.wrap (q.r.toNat : Int) = (q.r.toNat : Int) := IntWalk.i64_in _ (by omega)
  have w2 : IntKind.i64.wrap (q.g.toNat : Int) = (q.g.toNat : Int) := IntWalk.i64_in _ (by omega)
  have w3 : IntKind.i64.wrap (q.b.toNat : Int) = (q.b.toNat : Int) := IntWalk.i64_in _ (by omega)
  have w4 : IntKind.i64.wrap ((q.r.toNat : Int) / 255) = (q.r.toNat : Int) / 255 := IntWalk.i64_in _ (by omega)
  have w5 : IntKind.i64.wrap (1 - (q.r.toNat : Int) / 255) = ((1 - q.r.toNat / 255 : Nat) : Int) := by rw [show 1 - (q.r.toNat : Int) / 255 = ((1 - q.r.toNat / 255 : Nat) : Int) by omega]; exact IntWalk.i64_in _ (by omega)
  have I0 : CB (w.alloc (.cells #[.int .u8 (q.r.toNat : Int), .int .u8 (q.g.toNat : Int), .int .u8 (q.b.toNat : Int), .int .u8 (q.a.toNat : Int)] 48)) w.heap.size (q.r.toNat : Int) (q.g.toNat : Int) (q.b.toNat : Int) (q.a.toNat : Int) := Blk.new _ _ _
  have B0 : Below w.heap.size w (w.alloc (.cells #[.int .u8 (q.r.toNat : Int), .int .u8 (q.g.toNat : Int), .int .u8 (q.b.toNat : Int), .int .u8 (q.a.toNat : Int)] 48)) := (Below.refl _ _).alloc (Nat.le_refl _) _
  have c0 := I0.c0
  have c1 := I0.c1
  have c2 := I0.c2
  have c3 := I0.c3
  unfold Qc.v
  rcases hK with rfl | rfl | rfl
  · have e : smp 1 q = [1 - q.r.toNat / 255] := rfl
    rw [e]
    clear e
    go_enter Tryz.func28, Tryz.ntmps28
    go_wp2_with fail
    go_ret
    exact ⟨_, rfl, Blk.new_at _ _ _ (by simp), B0.alloc B0.size _⟩
  · have e : smp 2 q = [q.r.toNat] := rfl
    rw [e]
    clear e
    go_enter Tryz.func28, Tryz.ntmps28
    go_wp2_with fail
    go_ret
    exact ⟨_, rfl, Blk.new_at _ _ _ (by simp), B0.alloc B0.size _⟩
  · have e : smp 3 q = [q.r.toNat, q.g.toNat, q.b.toNat] := rfl
    rw [e]
    clear e
    go_enter Tryz.func28, Tryz.ntmps28
    go_wp2_with fail
    go_ret
    exact ⟨_, rfl, Blk.new_at _ _ _ (by simp), B0.alloc B0.size _⟩
/-! ### the text -/
/-- the blank ahead of a number -/
def gp (n : Nat) : List UInt8 := if n = 0 then [] else [32]
/-- a pixel's first numbers as text -/
def smpT (x : Nat) (S : List Nat) (i : Nat) : List UInt8 := if x = 0 then (((S.take i).map fun t => 32 :: dg t).flatten).tail else ((S.take i).map fun t => 32 :: dg t).flatten
theorem smpT_zero (x : Nat) (S : List Nat) : smpT x S 0 = [] := by unfold smpT; simp
theorem smpT_more {x i t : Nat} {S : List Nat} (h : S[i]? = some t) : smpT x S (i + 1) = smpT x S i ++ gp (x + i) ++ dg t := by
  have hs : ((S.take (i + 1)).map fun t => 32 :: dg t).flatten = ((S.take i).map fun t => 32 :: dg t).flatten ++ (32 :: dg t) := by
    rw [List.take_add_one, h]
    simp
  unfold smpT gp
  by_cases hx : x = 0
  · rw [if_pos hx, if_pos hx, hs]
    by_cases hi : i = 0
    · rw [if_pos (by omega), hi]
      simp
    · rw [if_neg (by omega)]
      have hne : ((S.take i).map fun t => 32 :: dg t).flatten ≠ [] := by
        have hl := (List.getElem?_eq_some_iff.1 h).1
        cases S with
        | nil => simp at hl
        | cons s S =>
          obtain ⟨j, rfl⟩ : ∃ j, i = j + 1 := ⟨i - 1, by omega⟩
          simp
      rw [List.tail_append_of_ne_nil hne]
      simp
  · rw [if_neg hx, if_neg hx, if_neg (by omega), hs]
    simp
theorem smpT_end {K x : Nat} {q : Qc} (hK : K = 1 ∨ K = 2 ∨ K = 3) : smpT x (smp K q) (smp K q).length = if x = 0 then (pxT K 10 q).tail else pxT K 32 q := by
  have hd : q.r.toNat / 255 ≤ 1 := by have := q.r.toNat_lt; omega
  have h1 : dg (1 - q.r.toNat / 255) = [UInt8.ofNat (48 + (1 - q.r.toNat / 255))] := dg_small (by omega)
  unfold smpT
  rw [List.take_length]
  rcases hK with rfl | rfl | rfl
  · rw [show smp 1 q = [1 - q.r.toNat / 255] from rfl]
    unfold pxT
    simp only [List.map_cons, List.map_nil, List.flatten_cons, List.flatten_nil, List.append_nil, h1]
    split <;> rfl
  · rw [show smp 2 q = [q.r.toNat] from rfl]
    unfold pxT
    simp only [List.map_cons, List.map_nil, List.flatten_cons, List.flatten_nil, List.append_nil]
    split <;> rfl
  · rw [show smp 3 q = [q.r.toNat, q.g.toNat, q.b.toNat] from rfl]
    unfold pxT
    simp only [List.map_cons, List.map_nil, List.flatten_cons, List.flatten_nil, List.append_nil]
    split <;> simp
theorem rowT_more {K x : Nat} {L : List Qc} {q : Qc} (hK : K = 1 ∨ K = 2 ∨ K = 3) (h : L[x]? = some q) : rowT K (L.take x) ++ smpT x (smp K q) (smp K q).length = rowT K (L.take (x + 1)) := by
  rw [smpT_end hK, List.take_add_one, h]
  have hl := (List.getElem?_eq_some_iff.1 h).1
  cases x with
  | zero => simp [rowT]
  | succ x =>
    rw [if_neg (by omega)]
    cases L with
    | nil => simp at hl
    | cons p L => simp [rowT]
theorem rowT_end {K : Nat} {L : List Qc} (hK : K = 1 ∨ K = 2 ∨ K = 3) : rowT K L ++ [10] = encRow K L := by
  unfold encRow
  rw [if_pos (by omega)]
end Go.Proofs.YthljhebbblhakaaGreatDoor
namespace Go.Proofs.YthljhebbblhakaaGreatDoor
open Go.RowKit
set_option linter.unusedVariables false
set_option linter.unusedSimpArgs false

set_option maxRecDepth 100000 in
set_option maxHeartbeats 4000000 in
theorem textMayC {K : Nat} (hK : K = 1 ∨ K = 2 ∨ K = 3) (q : Qc) (w : World) : Calls Tryz.prog 27 #[q.v, .int .i64 (K : Int)] w fun e w' => e = .returned (.bool (mayB K q)) ∧ Below w.heap.size w w' := by
  unfold mayB Qc.v
  obtain ⟨b1, h1⟩ : ∃ b, ((q.a.toNat : Int) == 255) = b := ⟨_, rfl⟩
  obtain ⟨b2, h2⟩ : ∃ b, ((q.r.toNat : Int) == (q.g.toNat : Int)) = b := ⟨_, rfl⟩
  obtain ⟨b3, h3⟩ : ∃ b, ((q.g.toNat : Int) == (q.b.toNat : Int)) = b := ⟨_, rfl⟩
  obtain ⟨b4, h4⟩ : ∃ b, ((q.r.toNat : Int) == 0) = b := ⟨_, rfl⟩
  obtain ⟨b5, h5⟩ : ∃ b, ((q.r.toNat : Int) == 255) = b := ⟨_, rfl⟩
  have B0 : Below w.heap.size w (w.alloc (.cells #[.int .u8 (q.r.toNat : Int), .int .u8 (q.g.toNat : Int), .int .u8 (q.b.toNat : Int), .int .u8 (q.a.toNat : Int)] 48)) := (Below.refl _ _).alloc (Nat.le_refl _) _
  rw [h1, h2, h3, h4, h5]
  rcases hK with rfl | rfl | rfl <;> cases b1 <;> cases b2 <;> cases b3 <;> cases b4 <;> cases b5
  all_goals
    go_enter Tryz.func27, Tryz.ntmps27
    go_wp2_with fail
    first | done | (go_ret; exact ⟨rfl, B0⟩)
end Go.Proofs.YthljhebbblhakaaGreatDoor
