/- The document's raster: Set. -/
import Derived.Test.YtfgcbhcfekonnaaRasRef2
namespace Go.Proofs.Ytfgcbhcfekonnaa
open Go.RowKit
set_option linter.unusedVariables false
set_option linter.unusedSimpArgs false

theorem QAt.set {w : World} {g i : Nat} {cs : Array Value} {L : List Qc} {q : Qc} (hb : Blk w g 39 cs) (h : QAt w g 0 L) (hi : i < L.length) (hsz : i * 4 + 4 ≤ cs.size) :
    QAt ((((w.setCell ⟨g, i * 4, none⟩ (.int .u8 (q.r.toNat : Int))).setCell ⟨g, i * 4 + 1, none⟩ (.int .u8 (q.g.toNat : Int))).setCell ⟨g, i * 4 + 2, none⟩ (.int .u8 (q.b.toNat : Int))).setCell ⟨g, i * 4 + 3, none⟩ (.int .u8 (q.a.toNat : Int))) g 0 (L.set i q) := by
  have hb4 := (((hb.set_ (i * 4) (.int .u8 (q.r.toNat : Int))).set_ (i * 4 + 1) (.int .u8 (q.g.toNat : Int))).set_ (i * 4 + 2) (.int .u8 (q.b.toNat : Int))).set_ (i * 4 + 3) (.int .u8 (q.a.toNat : Int))
  intro j q' hj
  have hjl : j < L.length := by have := (List.getElem?_eq_some_iff.1 hj).1; simpa using this
  rw [Nat.zero_add]
  by_cases hji : j = i
  · subst hji
    have hq : q' = q := by
      rw [List.getElem?_set_self hjl] at hj
      exact (Option.some.inj hj).symm
    subst hq
    refine ⟨(Blk.cell hb4 _).trans ?_, (Blk.cell hb4 _).trans ?_, (Blk.cell hb4 _).trans ?_, (Blk.cell hb4 _).trans ?_⟩
    · rw [Array.getElem?_setIfInBounds_ne (by omega), Array.getElem?_setIfInBounds_ne (by omega), Array.getElem?_setIfInBounds_ne (by omega), Array.getElem?_setIfInBounds_self_of_lt (by omega)]
    · rw [Array.getElem?_setIfInBounds_ne (by omega), Array.getElem?_setIfInBounds_ne (by omega), Array.getElem?_setIfInBounds_self_of_lt (by rw [Array.size_setIfInBounds]; omega)]
    · rw [Array.getElem?_setIfInBounds_ne (by omega), Array.getElem?_setIfInBounds_self_of_lt (by simp only [Array.size_setIfInBounds]; omega)]
    · rw [Array.getElem?_setIfInBounds_self_of_lt (by simp only [Array.size_setIfInBounds]; omega)]
  · rw [List.getElem?_set_ne (Ne.symm hji)] at hj
    have hh := h j q' hj
    rw [Nat.zero_add] at hh
    have key : ∀ k, k < 4 → (((((cs.setIfInBounds (i * 4) (.int .u8 (q.r.toNat : Int))).setIfInBounds (i * 4 + 1) (.int .u8 (q.g.toNat : Int))).setIfInBounds (i * 4 + 2) (.int .u8 (q.b.toNat : Int))).setIfInBounds (i * 4 + 3) (.int .u8 (q.a.toNat : Int))))[j * 4 + k]? = cs[j * 4 + k]? := fun k hk => by
      rw [Array.getElem?_setIfInBounds_ne (by omega), Array.getElem?_setIfInBounds_ne (by omega), Array.getElem?_setIfInBounds_ne (by omega), Array.getElem?_setIfInBounds_ne (by omega)]
    refine ⟨(Blk.cell hb4 _).trans ((key 0 (by omega)).trans ((Blk.cell hb _).symm.trans hh.1)), (Blk.cell hb4 _).trans ((key 1 (by omega)).trans ((Blk.cell hb _).symm.trans hh.2.1)), (Blk.cell hb4 _).trans ((key 2 (by omega)).trans ((Blk.cell hb _).symm.trans hh.2.2.1)), (Blk.cell hb4 _).trans ((key 3 (by omega)).trans ((Blk.cell hb _).symm.trans hh.2.2.2))⟩
/-- the block of an owned row -/
theorem OwnsQ.blk {w : World} {base g n c : Nat} {L : List Qc} (h : OwnsQ w base (.slice (some ⟨g, 0, none⟩) n c) L) : base ≤ g ∧ n = L.length ∧ ∃ cs, Blk w g 39 cs ∧ L.length * 4 ≤ cs.size := by
  rcases h.2 with ⟨e, _⟩ | ⟨g', cap, cur, e, hb, hg, hc, hm, hs, ht⟩
  · cases e
  · simp only [Value.slice.injEq, Option.some.injEq, Addr.mk.injEq] at e
    obtain ⟨⟨rfl, _⟩, rfl, rfl⟩ := e
    exact ⟨hb, rfl, cur, hg, by rw [hs]; exact Nat.mul_le_mul hc (Nat.le_refl 4)⟩
theorem OwnsQ.some_ {w : World} {base n : Nat} {v : Value} {L M : List Qc} (h : OwnsQ w base v L) (hM : L = M) (hn : n = M.length) (hp : 0 < n) : ∃ g c, v = .slice (some ⟨g, 0, none⟩) n c ∧ OwnsQ w base (.slice (some ⟨g, 0, none⟩) n c) M := by
  subst hM
  subst hn
  rcases h.form with ⟨_, rfl⟩ | ⟨g, c, rfl, _⟩
  · simp at hp
  · exact ⟨g, c, rfl, h⟩
theorem QAt.far {w : World} {g k i : Nat} {u : Value} {L : List Qc} (h : QAt w g 0 L) (hk : g ≠ k) : QAt (w.setCell ⟨k, i, none⟩ u) g 0 L := fun j q hj => by
  obtain ⟨h0, h1, h2, h3⟩ := h j q hj
  have e : ∀ o, (w.setCell ⟨k, i, none⟩ u).cell? ⟨g, o, none⟩ = w.cell? ⟨g, o, none⟩ := fun o => World.cell?_of_block (Below.heap_setCell w ⟨k, i, none⟩ u g hk)
  exact ⟨(e _).trans h0, (e _).trans h1, (e _).trans h2, (e _).trans h3⟩
set_option maxRecDepth 100000 in
set_option maxHeartbeats 2000000 in
theorem refSet7 {w : World} {W H X Y n q c p i : Nat} {o : Bool} {L : List Qc} (qc : Qc) (hn : n = H * W) (hL : n = L.length) (hX : X < W) (hY : Y < H) (hp : Y * W = p) (hi : i = p + X) (hW : W ≤ 16384) (hH : H ≤ 16384) (hq : QAt w q 0 L) :
    Calls Try.prog 44 #[.agg (refC (W : Int) (H : Int) q n c o), .int .i64 (X : Int), .int .i64 (Y : Int), .agg #[.int .u8 (qc.r.toNat : Int), .int .u8 (qc.g.toNat : Int), .int .u8 (qc.b.toNat : Int), .int .u8 (qc.a.toNat : Int)]] w fun e w' => ∃ q' c', e = .returned (.agg (refC (W : Int) (H : Int) q' n c' true)) ∧ QAt w' q' 0 (L.set i qc) ∧ w.heap.size ≤ q' ∧ n ≤ c' ∧ Below w.heap.size w w' := by
  unfold refC
  have hin : i < n := by rw [hn, hi, ← hp]; have := row_in (n := W) hY; omega
  have hpb : p ≤ 16384 * 16384 := by rw [← hp]; exact Nat.mul_le_mul (by omega) hW
  have hnb : n ≤ 16384 * 16384 := by rw [hn]; exact Nat.mul_le_mul hH hW
  have HWP := prod3_in hp (by omega)
  have hie : (p : Int) + (X : Int) = (i : Int) := by omega
  have hini : (i : Int) < (n : Int) := by omega
  obtain ⟨wA, hwA⟩ : ∃ wA, wA = (((w.alloc (.cells (refC (W : Int) (H : Int) q n c o) 34)).alloc (.cells #[.int .u8 (qc.r.toNat : Int), .int .u8 (qc.g.toNat : Int), .int .u8 (qc.b.toNat : Int), .int .u8 (qc.a.toNat : Int)] 39)).alloc (.cells refZ 34)).alloc (.cells #[] 39) := ⟨_, rfl⟩
  have HI : Hid (RB wA w.heap.size (W : Int) (H : Int) q n c o ∧ CB wA (w.heap.size + 1) (qc.r.toNat : Int) (qc.g.toNat : Int) (qc.b.toNat : Int) (qc.a.toNat : Int) ∧ RZ wA (w.heap.size + 2) ∧ OwnsQ wA w.heap.size (.slice (some ⟨w.heap.size + 3, 0, none⟩) 0 0) [] ∧ Below w.heap.size w wA) := Lib.hid (by
    subst hwA
    refine ⟨(((Blk.new _ _ _).alloc _).alloc _).alloc _, ((Blk.new_at _ _ _ (by simp)).alloc _).alloc _, (Blk.new_at _ _ _ (by simp)).alloc _, ?_, ((((Below.refl _ _).alloc (Nat.le_refl _) _).alloc (by simp) _).alloc (by simp; omega) _).alloc (by simp; omega) _⟩
    have := World.ownsRow_made (((w.alloc (.cells (refC (W : Int) (H : Int) q n c o) 34)).alloc (.cells #[.int .u8 (qc.r.toNat : Int), .int .u8 (qc.g.toNat : Int), .int .u8 (qc.b.toNat : Int), .int .u8 (qc.a.toNat : Int)] 39)).alloc (.cells refZ 34)) (base := w.heap.size) (e := 39) (size := 4) #[] 0 (by simp; omega) (Nat.zero_le _) rfl
    simpa [OwnsQ, cq] using this)
  have HQ := Lib.hid (hq.below HI.out.2.2.2.2)
  have HLN := Lib.hid hL
  have HLI := Lib.hid (show i < L.length by rw [← hL]; exact hin)
  clear hq hn hL hi hp
  simp only [refC, refZ] at hwA
  go_enter Try.func44, Try.ntmps44
  go_upto_region 2 with fail
  change Code.wp _ _ _ _ ((((w.alloc (.cells #[.int .i64 (W : Int), .int .i64 (H : Int), .slice (some ⟨q, 0, none⟩) n c, .bool o] 34)).alloc (.cells #[.int .u8 (qc.r.toNat : Int), .int .u8 (qc.g.toNat : Int), .int .u8 (qc.b.toNat : Int), .int .u8 (qc.a.toNat : Int)] 39)).alloc (.cells #[.int .i64 0, .int .i64 0, .slice none 0 0, .bool false] 34)).alloc (.cells #[] 39))
  rw [← hwA]
  clear hwA
  have r2 : wA.cell? ⟨w.heap.size, 2, none⟩ = some (.slice (some ⟨q, 0, none⟩) n c) := HI.out.1.c2
  have zA := HI.out.2.2.2.2.size
  have hn0 : 0 < n := by omega
  go_wp2_with (at_builtin; refine wpList_append_cols rfl (.tmp 11) (.tmp 13) rfl w.heap.size _ [] rfl HI.out.2.2.2.1 q n c L HLN.out rfl HQ.out (by rw [← HLN.out]; simp; omega) zA ?_; intro v5 w5 own5 hb5 hg5; obtain ⟨g5, cap5, rfl, ow5⟩ := own5.some_ (M := L) (List.nil_append L) HLN.out hn0; obtain ⟨hgb, -, cs5, hk5, hcs5⟩ := ow5.blk; have R5 : RB w5 w.heap.size (W : Int) (H : Int) q n c o := Blk.grownQ HI.out.1 HI.out.2.2.2.1 (by decide) hg5; have Z5 : RZ w5 (w.heap.size + 2) := Blk.grownQ HI.out.2.2.1 HI.out.2.2.2.1 (by decide) hg5; have C5 : CB w5 (w.heap.size + 1) (qc.r.toNat : Int) (qc.g.toNat : Int) (qc.b.toNat : Int) (qc.a.toNat : Int) := Blk.grown (row := some (w.heap.size + 3)) HI.out.2.1 hg5 (by simp); obtain ⟨qo, hqo⟩ : ∃ qo, L[i]? = some qo := ⟨_, List.getElem?_eq_getElem HLI.out⟩; obtain ⟨k0, k1, k2, k3⟩ := ow5.at_ i qo hqo; rw [Nat.zero_add] at k0 k1 k2 k3; have m0 := Blk.frozen hk5 (i * 4); have m1 := Blk.frozen hk5 (i * 4 + 1); have m2 := Blk.frozen hk5 (i * 4 + 2); have m3 := Blk.frozen hk5 (i * 4 + 3); have x0 := C5.c0; have x1 := C5.c1; have x2 := C5.c2; have x3 := C5.c3; have e0 := R5.c0; have e1 := R5.c1; have ng0 : g5 ≠ w.heap.size := (Blk.ne_ hk5 R5 (by decide)); have ng2 : g5 ≠ w.heap.size + 2 := (Blk.ne_ hk5 Z5 (by decide)); have y0 : w5.cell? ⟨w.heap.size + 2, 0, none⟩ = some (.int .i64 0) := Blk.cell Z5 0; have y1 : w5.cell? ⟨w.heap.size + 2, 1, none⟩ = some (.int .i64 0) := Blk.cell Z5 1; have y2 : w5.cell? ⟨w.heap.size + 2, 2, none⟩ = some (.slice none 0 0) := Blk.cell Z5 2; have y3 : w5.cell? ⟨w.heap.size + 2, 3, none⟩ = some (.bool false) := Blk.cell Z5 3; have yz0 := Blk.frozen Z5 0; have yz1 := Blk.frozen Z5 1; have yz2 := Blk.frozen Z5 2; have yz3 := Blk.frozen Z5 3; have OW := Lib.hid ow5; have HK := Lib.hid hk5; have HZZ := Lib.hid Z5; have HGB := Lib.hid hgb; have HCS := Lib.hid hcs5; have HBB := Lib.hid hb5; clear own5 ow5 hk5 Z5 R5 C5 hqo hg5 hcs5 hb5)
  have Q9 : QAt ((((((((w5.setCell ⟨g5, i * 4, none⟩ (.int .u8 (qc.r.toNat : Int))).setCell ⟨g5, i * 4 + 1, none⟩ (.int .u8 (qc.g.toNat : Int))).setCell ⟨g5, i * 4 + 2, none⟩ (.int .u8 (qc.b.toNat : Int))).setCell ⟨g5, i * 4 + 3, none⟩ (.int .u8 (qc.a.toNat : Int))).setCell ⟨w.heap.size + 2, 0, none⟩ (.int .i64 (W : Int))).setCell ⟨w.heap.size + 2, 1, none⟩ (.int .i64 (H : Int))).setCell ⟨w.heap.size + 2, 2, none⟩ (.slice (some ⟨g5, 0, none⟩) n cap5)).setCell ⟨w.heap.size + 2, 3, none⟩ (.bool true)) g5 0 (L.set i qc) := ((((QAt.set HK.out OW.out.at_ HLI.out (by have := HCS.out; have := HLI.out; omega)).far ng2).far ng2).far ng2).far ng2
  have R9 : RB ((((((((w5.setCell ⟨g5, i * 4, none⟩ (.int .u8 (qc.r.toNat : Int))).setCell ⟨g5, i * 4 + 1, none⟩ (.int .u8 (qc.g.toNat : Int))).setCell ⟨g5, i * 4 + 2, none⟩ (.int .u8 (qc.b.toNat : Int))).setCell ⟨g5, i * 4 + 3, none⟩ (.int .u8 (qc.a.toNat : Int))).setCell ⟨w.heap.size + 2, 0, none⟩ (.int .i64 (W : Int))).setCell ⟨w.heap.size + 2, 1, none⟩ (.int .i64 (H : Int))).setCell ⟨w.heap.size + 2, 2, none⟩ (.slice (some ⟨g5, 0, none⟩) n cap5)).setCell ⟨w.heap.size + 2, 3, none⟩ (.bool true)) (w.heap.size + 2) (W : Int) (H : Int) g5 n cap5 true := (((Blk.set_ (Blk.far (Blk.far (Blk.far (Blk.far HZZ.out (Ne.symm ng2) _) (Ne.symm ng2) _) (Ne.symm ng2) _) (Ne.symm ng2) _) 0 _).set_ 1 _).set_ 2 _).set_ 3 _
  have B9 : Below w.heap.size w ((((((((w5.setCell ⟨g5, i * 4, none⟩ (.int .u8 (qc.r.toNat : Int))).setCell ⟨g5, i * 4 + 1, none⟩ (.int .u8 (qc.g.toNat : Int))).setCell ⟨g5, i * 4 + 2, none⟩ (.int .u8 (qc.b.toNat : Int))).setCell ⟨g5, i * 4 + 3, none⟩ (.int .u8 (qc.a.toNat : Int))).setCell ⟨w.heap.size + 2, 0, none⟩ (.int .i64 (W : Int))).setCell ⟨w.heap.size + 2, 1, none⟩ (.int .i64 (H : Int))).setCell ⟨w.heap.size + 2, 2, none⟩ (.slice (some ⟨g5, 0, none⟩) n cap5)).setCell ⟨w.heap.size + 2, 3, none⟩ (.bool true)) := below_set (below_set (below_set (below_set (below_set (below_set (below_set (below_set (HI.out.2.2.2.2.trans HBB.out) HGB.out) HGB.out) HGB.out) HGB.out) (by omega)) (by omega)) (by omega)) (by omega)
  change bodyPost _ _ _ _ _ ((((((((w5.setCell ⟨g5, i * 4, none⟩ (.int .u8 (qc.r.toNat : Int))).setCell ⟨g5, i * 4 + 1, none⟩ (.int .u8 (qc.g.toNat : Int))).setCell ⟨g5, i * 4 + 2, none⟩ (.int .u8 (qc.b.toNat : Int))).setCell ⟨g5, i * 4 + 3, none⟩ (.int .u8 (qc.a.toNat : Int))).setCell ⟨w.heap.size + 2, 0, none⟩ (.int .i64 (W : Int))).setCell ⟨w.heap.size + 2, 1, none⟩ (.int .i64 (H : Int))).setCell ⟨w.heap.size + 2, 2, none⟩ (.slice (some ⟨g5, 0, none⟩) n cap5)).setCell ⟨w.heap.size + 2, 3, none⟩ (.bool true))
  generalize ((((((((w5.setCell ⟨g5, i * 4, none⟩ (.int .u8 (qc.r.toNat : Int))).setCell ⟨g5, i * 4 + 1, none⟩ (.int .u8 (qc.g.toNat : Int))).setCell ⟨g5, i * 4 + 2, none⟩ (.int .u8 (qc.b.toNat : Int))).setCell ⟨g5, i * 4 + 3, none⟩ (.int .u8 (qc.a.toNat : Int))).setCell ⟨w.heap.size + 2, 0, none⟩ (.int .i64 (W : Int))).setCell ⟨w.heap.size + 2, 1, none⟩ (.int .i64 (H : Int))).setCell ⟨w.heap.size + 2, 2, none⟩ (.slice (some ⟨g5, 0, none⟩) n cap5)).setCell ⟨w.heap.size + 2, 3, none⟩ (.bool true)) = we at Q9 R9 B9 ⊢
  have r0 := R9.c0
  have r1 := R9.c1
  have r2 := R9.c2
  have r3 := R9.c3
  exact bodyPost_ret (v := .agg #[.int .i64 (W : Int), .int .i64 (H : Int), .slice (some ⟨g5, 0, none⟩) n cap5, .bool true]) (by simp [results, Try.results44, go_sem, r0, r1, r2, r3]) rfl ⟨g5, cap5, rfl, Q9, HGB.out, OW.out.cap, B9⟩
end Go.Proofs.Ytfgcbhcfekonnaa
