/- A clone of an image. -/
import Derived.Test.YtkaijekdnbhjaaaRasImg2
import Derived.Test.YtkaijekdnbhjaaaAppendOne
import Derived.Lib.SliceRun
namespace Go.Proofs.Ytkaijekdnbhjaaa
open Go.RowKit
set_option linter.unusedVariables false
set_option linter.unusedSimpArgs false

def V8 (l : List UInt8) : List Value := l.map fun b => .int .u8 (b.toNat : Int)
theorem ownsBytes {w : World} {base n : Nat} {e : TypeId} {v : Value} {l : List UInt8} (hl : n = l.length) (h : w.ownsRow base e 1 v n (V8 l)) : ∃ a c, v = .slice a n c ∧ BytesAt w a n l ∧ ∀ b off, a = some ⟨b, off, none⟩ → base ≤ b := by
  have hn : (V8 l).length = n := by rw [hl]; simp [V8]
  have h' : Owns1 w base e v (V8 l) := by unfold Owns1; rw [hn]; exact h
  rcases h'.form with ⟨rfl, h0⟩ | ⟨g, cap, rfl, hg, _, _, _, hc⟩
  · have : n = 0 := by rw [← hn, h0]; rfl
    subst this
    exact ⟨none, 0, rfl, ⟨hl, .inl rfl⟩, fun _ _ e => by cases e⟩
  · refine ⟨some ⟨g, 0, none⟩, cap, by rw [hn], ⟨hl, .inr ⟨g, 0, rfl, fun j hj => ?_⟩⟩, fun b off e => by cases e; exact hg⟩
    rw [Nat.zero_add, hc j (by omega)]
    simp [V8, List.getElem?_eq_getElem hj]
set_option maxHeartbeats 2000000 in
set_option maxRecDepth 100000 in
theorem bytesClone {w : World} {a : Option Addr} {n c : Nat} {l : List UInt8} (h : BytesAt w a n l) (hn : n ≤ 1048576) : Calls Try.prog 65 #[.slice a n c] w fun e w' => ∃ a' c', e = .returned (.slice a' n c') ∧ BytesAt w' a' n l ∧ (∀ b off, a' = some ⟨b, off, none⟩ → w.heap.size ≤ b) ∧ Below w.heap.size w w' := by
  cases a with
  | none =>
    obtain ⟨rfl, h0⟩ := h
    have h0 : l.length = 0 := by
      rcases h0 with h0 | ⟨b, off, e, _⟩
      · exact h0
      · cases e
    have q22 : ∀ (w : World) (a : Option Addr) (n c n' c' : Nat), (binOp .eql 54 (.slice a n c) (.slice none n' c')).run Try.prog w = .ok (.bool a.isNone) w := fun w a n c n' c' => Lib.run_eql_slice_nil w _ _ a n c n' c' Try.underlying54
    go_enter Try.func65, Try.ntmps65
    go_wp2_with fail
    go_ret
    obtain rfl := List.eq_nil_of_length_eq_zero h0
    exact ⟨none, 0, rfl, ⟨rfl, .inl rfl⟩, (fun _ _ e => by cases e), Below.refl _ _⟩
  | some ad =>
    obtain ⟨i0, hi, hz0, hz1, hz2⟩ := info_parts (show (Try.prog.info? 5).map (fun i => (i.zero, i.size, i.bytes)) = some (some (.int .u8 0), 1, 1) by kernel_rfl)
    have q22 : ∀ (w : World) (a : Option Addr) (n c n' c' : Nat), (binOp .eql 54 (.slice a n c) (.slice none n' c')).run Try.prog w = .ok (.bool a.isNone) w := fun w a n c n' c' => Lib.run_eql_slice_nil w _ _ a n c n' c' Try.underlying54
    obtain ⟨rfl, hr⟩ := h
    have A : Aside (∀ j u, (V8 l)[j]? = some u → w.cell? (ad.add j) = some u) := by
      intro j u hj
      rcases hr with h0 | ⟨b, off, e, hc⟩
      · have : l = [] := List.eq_nil_of_length_eq_zero (by omega)
        subst this; simp [V8] at hj
      · obtain rfl := Option.some.inj e
        obtain ⟨hjl, hju⟩ := List.getElem?_eq_some_iff.1 hj
        rw [addrAdd, hc j (by simpa [V8] using hjl), ← hju]
        simp [V8]
    clear hr
    have hnl : (V8 l).length = l.length := by simp [V8]
    go_enter Try.func65, Try.ntmps65
    go_wp2_with (at_builtin; refine wpList_append_own (P := Try.prog) _ rfl _ _ 54 rfl w.heap.size 5 i0 (.int .u8 0) 1 1 Try.underlying54 hi hz0 hz1 hz2 rfl (by decide) _ _ _ rfl (World.ownsRow_made w #[] 0 (Nat.le_refl _) (Nat.zero_le _) rfl) ad l.length c (V8 l) rfl ?qc1 ?qc2 ?qc3 ?qc4 ?qc5 ?qc6 ?_)
    case qc1 => rw [hnl]; simp
    case qc2 => exact fun j u hj => Lib.cell?_alloc_some _ (A.out j u hj)
    case qc3 => intro u hu; obtain ⟨x, _, rfl⟩ := List.mem_map.1 hu; rfl
    case qc4 => unfold maxLen; omega
    case qc5 => omega
    case qc6 => simp
    intro v' w1 hown hgrow hnil
    go_wp2_with fail
    go_ret
    obtain ⟨a', c', rfl, hb, hg⟩ := ownsBytes rfl (by simpa using hown)
    exact ⟨a', c', rfl, hb, hg, ((Below.refl _ w).alloc (Nat.le_refl _) _).grown hgrow (by simp) (by intro k hk; simp [Value.ownBlock] at hk; omega)⟩
theorem BytesAt.set {w : World} {a : Option Addr} {n : Nat} {l : List UInt8} (h : BytesAt w a n l) (k i : Nat) (u : Value) (hk : ∀ b off, a = some ⟨b, off, none⟩ → b ≠ k) : BytesAt (w.setCell ⟨k, i, none⟩ u) a n l := by
  obtain ⟨h1, h0 | ⟨b, off, rfl, hc⟩⟩ := h
  · exact ⟨h1, .inl h0⟩
  · exact ⟨h1, .inr ⟨b, off, rfl, fun j hj => (World.cell?_of_block (Below.heap_setCell w ⟨k, i, none⟩ u b (hk b off rfl))).trans (hc j hj)⟩⟩
set_option maxRecDepth 100000 in
theorem clone_any {w : World} {W H : Int} {a : Option Addr} {n c : Nat} {l : List UInt8} (h : BytesAt w a n l) (hn : n ≤ 1048576) : Calls Try.prog 37 #[.agg #[.int .i64 W, .int .i64 H, .slice a n c]] w fun e w' => ∃ a' c', e = .returned (.agg #[.int .i64 W, .int .i64 H, .slice a' n c']) ∧ BytesAt w' a' n l ∧ Below w.heap.size w w' := by
  have HC := Lib.hid (bytesClone (c := c) ((h.alloc (.cells #[.int .i64 W, .int .i64 H, .slice a n c] 56)).alloc (.cells #[.int .i64 0, .int .i64 0, .slice none 0 0] 56)) hn)
  have I0 : Blk ((w.alloc (.cells #[.int .i64 W, .int .i64 H, .slice a n c] 56)).alloc (.cells #[.int .i64 0, .int .i64 0, .slice none 0 0] 56)) w.heap.size 56 #[.int .i64 W, .int .i64 H, .slice a n c] := (Blk.new _ _ _).alloc _
  have R0 : Blk ((w.alloc (.cells #[.int .i64 W, .int .i64 H, .slice a n c] 56)).alloc (.cells #[.int .i64 0, .int .i64 0, .slice none 0 0] 56)) (w.heap.size + 1) 56 #[.int .i64 0, .int .i64 0, .slice none 0 0] := Blk.new_at _ _ _ (by simp)
  have B0 : Below w.heap.size w ((w.alloc (.cells #[.int .i64 W, .int .i64 H, .slice a n c] 56)).alloc (.cells #[.int .i64 0, .int .i64 0, .slice none 0 0] 56)) := ((Below.refl _ _).alloc (Nat.le_refl _) _).alloc (by simp) _
  clear h
  go_enter Try.func37, Try.ntmps37
  go_wp2_with (go_at_call 65; refine HC.out.mono ?_; rintro e w1 ⟨a', c', rfl, hb, hg, b1⟩; have I1 := Blk.below I0 b1 (Blk.lt I0); have R1 := Blk.below R0 b1 (Blk.lt R0); have B1 := below_next B0 b1; have i0 : w1.cell? ⟨w.heap.size, 0, none⟩ = some (.int .i64 W) := Blk.cell I1 0; have i1 : w1.cell? ⟨w.heap.size, 1, none⟩ = some (.int .i64 H) := Blk.cell I1 1; have i2 : w1.cell? ⟨w.heap.size, 2, none⟩ = some (.slice a n c) := Blk.cell I1 2; have r0 : w1.cell? ⟨w.heap.size + 1, 0, none⟩ = some (.int .i64 0) := Blk.cell R1 0; have r1 : w1.cell? ⟨w.heap.size + 1, 1, none⟩ = some (.int .i64 0) := Blk.cell R1 1; have r2 : w1.cell? ⟨w.heap.size + 1, 2, none⟩ = some (.slice none 0 0) := Blk.cell R1 2; have z0 := Blk.frozen R1 0; have z1 := Blk.frozen R1 1; have z2 := Blk.frozen R1 2; have y2 := Blk.frozen I1 2; have HB := Lib.hid hb; have HG := Lib.hid hg; clear hb hg)
  have hk : ∀ b off, a' = some ⟨b, off, none⟩ → b ≠ w.heap.size ∧ b ≠ w.heap.size + 1 := fun b off e => by
    have := HG.out b off e
    simp at this
    omega
  have fz : Blk ((((w1.setCell ⟨w.heap.size, 2, none⟩ (.slice a' n c')).setCell ⟨w.heap.size + 1, 0, none⟩ (.int .i64 W)).setCell ⟨w.heap.size + 1, 1, none⟩ (.int .i64 H)).setCell ⟨w.heap.size + 1, 2, none⟩ (.slice a' n c')) (w.heap.size + 1) 56 #[.int .i64 W, .int .i64 H, .slice a' n c'] := (((Blk.far R1 (p := ⟨w.heap.size, 2, none⟩) (by simp) _).set_ 0 _).set_ 1 _).set_ 2 _
  have tz : Below w.heap.size w ((((w1.setCell ⟨w.heap.size, 2, none⟩ (.slice a' n c')).setCell ⟨w.heap.size + 1, 0, none⟩ (.int .i64 W)).setCell ⟨w.heap.size + 1, 1, none⟩ (.int .i64 H)).setCell ⟨w.heap.size + 1, 2, none⟩ (.slice a' n c')) := below_set (below_set (below_set (below_set B1 (Nat.le_refl _)) (by omega)) (by omega)) (by omega)
  have hz : BytesAt ((((w1.setCell ⟨w.heap.size, 2, none⟩ (.slice a' n c')).setCell ⟨w.heap.size + 1, 0, none⟩ (.int .i64 W)).setCell ⟨w.heap.size + 1, 1, none⟩ (.int .i64 H)).setCell ⟨w.heap.size + 1, 2, none⟩ (.slice a' n c')) a' n l := (((HB.out.set _ _ _ fun b off e => (hk b off e).1).set _ _ _ fun b off e => (hk b off e).2).set _ _ _ fun b off e => (hk b off e).2).set _ _ _ fun b off e => (hk b off e).2
  change bodyPost _ _ _ _ _ ((((w1.setCell ⟨w.heap.size, 2, none⟩ (.slice a' n c')).setCell ⟨w.heap.size + 1, 0, none⟩ (.int .i64 W)).setCell ⟨w.heap.size + 1, 1, none⟩ (.int .i64 H)).setCell ⟨w.heap.size + 1, 2, none⟩ (.slice a' n c'))
  generalize ((((w1.setCell ⟨w.heap.size, 2, none⟩ (.slice a' n c')).setCell ⟨w.heap.size + 1, 0, none⟩ (.int .i64 W)).setCell ⟨w.heap.size + 1, 1, none⟩ (.int .i64 H)).setCell ⟨w.heap.size + 1, 2, none⟩ (.slice a' n c')) = we at fz tz hz ⊢
  have q0 : we.cell? ⟨w.heap.size + 1, 0, none⟩ = some (.int .i64 W) := Blk.cell fz 0
  have q1 : we.cell? ⟨w.heap.size + 1, 1, none⟩ = some (.int .i64 H) := Blk.cell fz 1
  have q2 : we.cell? ⟨w.heap.size + 1, 2, none⟩ = some (.slice a' n c') := Blk.cell fz 2
  exact bodyPost_ret (v := .agg #[.int .i64 W, .int .i64 H, .slice a' n c']) (by simp [results, Try.results37, go_sem, q0, q1, q2]) rfl ⟨a', c', rfl, hz, tz⟩
end Go.Proofs.Ytkaijekdnbhjaaa
