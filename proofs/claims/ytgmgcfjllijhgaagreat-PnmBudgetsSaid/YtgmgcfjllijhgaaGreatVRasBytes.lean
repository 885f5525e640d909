/- The document's raster: Bytes. -/
import Derived.Test.YtgmgcfjllijhgaaGreatSq
import Derived.Test.YtgmgcfjllijhgaaGreatVRasRef
import Derived.Test.YtgmgcfjllijhgaaGreatVWords
import Derived.Test.YtgmgcfjllijhgaaGreatVRas
import Derived.ArgAppend
import Derived.Lib.SlBytesConst
import Derived.Deep.RegionLaw
import Derived.Deep.RegionHeld3
namespace Go.Proofs.YtgmgcfjllijhgaaGreat
open Go.RowKit
set_option linter.unusedVariables false
set_option linter.unusedSimpArgs false

/-- append(v, a row of bytes...): one operation -/
theorem oper_append_row {o : Oper} {a : Act} {w : World} {K : Act → World → Prop} {Q : Exit → Act → World → Prop}
  (s x : Operand) (ho : o.op = .call { callee := .builtin .append, args := #[s, x], argTypes := #[30, 30] })
  (base : Nat) (v : Value) (l m : List UInt8) (hs : a.eval s = v) (hown : Owns8 w base v l)
  (g n c : Nat) (hn : n = m.length) (hx : a.eval x = .slice (some ⟨g, 0, none⟩) n c) (hc : ∀ (j : Nat) (b : UInt8), m[j]? = some b → w.cell? ⟨g, j, none⟩ = some (.int .u8 (b.toNat : Int)))
  (hlen : l.length + m.length < 1099511627776) (hbase : base ≤ w.heap.size)
  (h : ∀ v' w', Owns8 w' base v' (l ++ m) → Below base w w' → K (a.put o.dst v') w') : Oper.wp Tryz.prog o a w K Q := by
 subst hn
 obtain ⟨i0, hi, hz0, hz1, hz2⟩ := info_parts info8
 obtain ⟨v', w', hr, h2, h3, h4⟩ := run_append_own (P := Tryz.prog) w base 30 o.type 5 i0 (.int .u8 0) 1 1 Tryz.underlying30 hi hz0 hz1 hz2 rfl (by decide) v l.length (C8 l) hown ⟨g, 0, none⟩ m.length c (C8 m) (by simp [C8]) (fun j u hj => by
  unfold C8 at hj
  rw [List.getElem?_map] at hj
  obtain ⟨b, hb, rfl⟩ := Option.map_eq_some_iff.1 hj
  have e : (⟨g, 0, none⟩ : Addr).add j = ⟨g, j, none⟩ := by unfold Addr.add; by_cases hj : j = 0 <;> simp [hj]
  rw [e]; exact hc j b hb) (fun u hu => by unfold C8 at hu; obtain ⟨b, _, rfl⟩ := List.mem_map.1 hu; rfl) (by unfold maxLen; omega) (by omega) hbase
 unfold Oper.wp
 simp only [execOp, ho, resolve, invoke, builtin, Sem.run_bind, Sem.run_pure, Result.andThen_ok, List.map_toArray, List.map_cons, List.map_nil, hs, hx, hr]
 refine h v' w' ?_ (hown.below (Below.refl _ _) (Nat.le_refl _) hbase h3)
 show World.ownsRow _ _ _ _ _ _ _
 have e2 : C8 (l ++ m) = C8 l ++ C8 m := by simp [C8]
 rw [List.length_append, e2]
 exact h2
theorem flat_next' {L : List Qc} {i : Nat} {q : Qc} (h : L[i]? = some q) : flat (L.take (i + 1)) = flat (L.take i) ++ [q.r, q.g, q.b, q.a] := by
 rw [List.take_add_one, h, flat_append]
 simp [flat, Qc.list]
theorem quad_new (w : World) (q : Qc) (j : Nat) (b : UInt8) (h : [q.r, q.g, q.b, q.a][j]? = some b) : (w.alloc (.cells #[.int .u8 (q.r.toNat : Int), .int .u8 (q.g.toNat : Int), .int .u8 (q.b.toNat : Int), .int .u8 (q.a.toNat : Int)] 5)).cell? ⟨w.heap.size, j, none⟩ = some (.int .u8 (b.toNat : Int)) := by
 refine (cell_new _ _ _ _ _ rfl).trans ?_
 match j, h with
 | 0, h => simp at h; subst h; rfl
 | 1, h => simp at h; subst h; rfl
 | 2, h => simp at h; subst h; rfl
 | 3, h => simp at h; subst h; rfl
set_option maxRecDepth 100000 in
set_option maxHeartbeats 4000000 in
theorem refBytes7 {w : World} {q off n c : Nat} {L : List Qc} (hn : n = L.length) (hc : n ≤ c) (hb : n ≤ 268435456) (h : QAt w q off L) :
  Calls Tryz.prog 41 #[.slice (some ⟨q, off, none⟩) n c] w fun e w' => e = .returned (.string (strOf (flat L))) ∧ Below w.heap.size w w' := by
 have HN := Lib.hid hn
 have HQ := Lib.hid h
 have hown0 : Owns8 (w.alloc (.cells #[] 5)) w.heap.size (.slice (some ⟨w.heap.size, 0, none⟩) 0 0) [] := by
  have := World.ownsRow_made w (base := w.heap.size) (e := 5) (size := 1) #[] 0 (Nat.le_refl _) (Nat.zero_le _) rfl
  simpa [Owns8, C8] using this
 have hb0 : Below w.heap.size w (w.alloc (.cells #[] 5)) := (Below.refl _ _).alloc (Nat.le_refl _) _
 have HI := Lib.hid (And.intro hown0 hb0)
 clear hn h hown0 hb0
 go_enter Tryz.func41, Tryz.ntmps41
 go_wp2_with fail
 go_loopg [3, 4] n (fun gh v iv wr => ∃ i : Nat, iv = .int .i64 (i : Int) ∧ Hid (n = i + gh) ∧ i ≤ n ∧ Hid (Owns8 wr w.heap.size v (flat (L.take i)) ∧ Below w.heap.size w wr))
 case atStart => exact ⟨0, rfl, Lib.hid (by omega), by omega, Lib.hid (by simpa [flat] using HI.out)⟩
 case round =>
  obtain ⟨i, rfl, hg, hin, hX⟩ := hrel
  obtain ⟨G, hGe⟩ : ∃ G, G = gk := ⟨_, rfl⟩
  subst hGe
  by_cases hlt : i < n
  ·have i0 : (i : Int) < (n : Int) := by omega
   obtain ⟨qc, hqc⟩ : ∃ qc, L[i]? = some qc := ⟨_, List.getElem?_eq_getElem (by rw [← HN.out]; exact hlt)⟩
   obtain ⟨e0, e1, e2, e3⟩ := (HQ.out.below hX.out.2) i qc hqc
   have HX := Lib.hid (flat_next' hqc)
   have HLT := Lib.hid (show (flat (L.take i)).length = 4 * i by rw [flat_len, List.length_take, ← HN.out]; omega)
   have zz := hX.out.2.size
   have hqw : q < w.heap.size := World.block_lt_of_cell? w _ (HQ.out i qc hqc).1
   have E0 := Lib.hid (HQ.out i qc hqc).1
   have E1 := Lib.hid (HQ.out i qc hqc).2.1
   have E2 := Lib.hid (HQ.out i qc hqc).2.2.1
   have E3 := Lib.hid (HQ.out i qc hqc).2.2.2
   have O1 := Owns8.drew (hX.out.1.alloc (.cells #[.int .u8 (qc.r.toNat : Int), .int .u8 (qc.g.toNat : Int), .int .u8 (qc.b.toNat : Int), .int .u8 (qc.a.toNat : Int)] 5))
   have B1 := (hX.out.2.alloc zz (.cells #[.int .u8 (qc.r.toNat : Int), .int .u8 (qc.g.toNat : Int), .int .u8 (qc.b.toNat : Int), .int .u8 (qc.a.toNat : Int)] 5)).drew
   have KK : ∀ {i : Nat} {u : Value}, wr.cell? ⟨q, i, none⟩ = some u → (wr.alloc (.cells #[.int .u8 (qc.r.toNat : Int), .int .u8 (qc.g.toNat : Int), .int .u8 (qc.b.toNat : Int), .int .u8 (qc.a.toNat : Int)] 5)).drew.cell? ⟨q, i, none⟩ = some u := fun h => (World.cell?_of_block (Below.heap_alloc wr _ q (by have := hqw; show q < wr.heap.size; omega))).trans h
   clear hqc
   go_upto_region 5 with fail
   refine wp_region_held_drew (S := (fun w' => w'.cell? ⟨q, off + i * 4, none⟩ = some (.int .u8 (qc.r.toNat : Int)) ∧ w'.cell? ⟨q, off + i * 4 + 1, none⟩ = some (.int .u8 (qc.g.toNat : Int)) ∧ w'.cell? ⟨q, off + i * 4 + 2, none⟩ = some (.int .u8 (qc.b.toNat : Int)) ∧ w'.cell? ⟨q, off + i * 4 + 3, none⟩ = some (.int .u8 (qc.a.toNat : Int)))) (by kernel_rfl) ⟨e0, e1, e2, e3⟩ (fun hHeld => ?_)
   refine tk 0 ?_
   (try simp only [sps])
   refine tk 1 ?_
   (try simp only [sps])
   refine tk 2 ?_
   (try simp only [sps])
   refine tk 3 ?_
   (try simp only [sps])
   refine tk 4 ?_
   (try simp only [sps])
   refine tk 5 ?_
   (try simp only [sps])
   refine tk 6 ?_
   (try simp only [sps])
   refine tk 7 ?_
   (try simp only [sps])
   refine tk 8 ?_
   (try simp only [sps])
   refine tk 9 ?_
   (try simp only [sps])
   refine tk 10 ?_
   (try simp only [sps])
   refine tk 11 ?_
   (try simp only [sps])
   refine tk 12 ?_
   (try simp only [sps])
   refine tk 13 ?_
   (try simp only [sps])
   refine tk 14 ?_
   (try simp only [sps])
   refine tk 15 ?_
   (try simp only [sps])
   refine tk 16 ?_
   (try simp only [sps])
   refine tk 17 ?_
   (try simp only [sps])
   refine tk 18 ?_
   (try simp only [sps])
   refine tk 19 ?_
   (try simp only [sps])
   refine tk 20 ?_
   (try simp only [sps])
   refine rdy 21 (fun K hK => ?_)
   go_simp
   refine hK.out _ _ ⟨KK e0, KK e1, KK e2, KK e3⟩ (fun hHeld' => ?_)
   clear hK K hHeld
   (try simp only [sps])
   refine rdy 22 (fun K hK => ?_)
   refine oper_append_row (.tmp 12) (.tmp 33) rfl w.heap.size _ _ [qc.r, qc.g, qc.b, qc.a] rfl O1 wr.heap.size 4 4 rfl rfl (quad_new wr qc) ?_ ?_ ?_
   ·rw [HLT.out]; simp; omega
   ·simp; omega
   intro v3 w3 own3 hb3
   have B3 := B1.trans hb3
   refine hK.out _ _ ⟨(B3.cell hqw).trans E0.out, (B3.cell hqw).trans E1.out, (B3.cell hqw).trans E2.out, (B3.cell hqw).trans E3.out⟩ (fun hHeld => ?_)
   clear hK K hHeld'
   (try simp only [sps])
   refine tk 23 ?_
   (try simp only [sps])
   refine wpAnyH_done (by kernel_rfl) ?_ _
   go_wp2_with fail
   go_roundg (n - (i + 1))
   case measure => have := hg.out; omega
   case rel => exact ⟨i + 1, by go_num, Lib.hid (by have := hg.out; omega), by omega, Lib.hid ⟨by rw [HX.out]; exact own3, B3⟩⟩
  ·have i0 : ¬ (i : Int) < (n : Int) := by omega
   have hi2 : i = n := by omega
   have HL2 : Hid (L.take i = L) := Lib.hid (by rw [hi2, HN.out, List.take_length])
   have own9 := hX.out.1
   clear hi2 hin
   go_wp2_with (refine wpList_convert_owned rfl (.tmp 35) 9 Tryz.underlying9 rfl _ _ _ rfl own9 ?_)
   try rw [Exit.noGoto_ret]
   go_ret
   exact ⟨ret1 (vstr (by rw [HL2.out])), hX.out.2⟩
end Go.Proofs.YtgmgcfjllijhgaaGreat
