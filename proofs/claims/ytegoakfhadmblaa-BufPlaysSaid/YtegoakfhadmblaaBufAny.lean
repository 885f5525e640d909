/- One call of both, of any kind. -/
import Derived.Test.YtegoakfhadmblaaBufOne2
import Derived.Test.YtegoakfhadmblaaBufOne3
import Derived.Test.YtegoakfhadmblaaBufOne4
import Derived.Test.YtegoakfhadmblaaBufOne5
namespace Go.Proofs.Ytegoakfhadmblaa
open Go.RowKit
set_option linter.unusedVariables false
set_option linter.unusedSimpArgs false

/-- the buffer, the ledger and the plain state, side by side -/
structure BSt (w : World) (b g d : Nat) (s : ByteArray) (o : Bool) (k p : Int) : Prop where
  Mo : o = true → BufAt w b g d s.data.toList
  Mf : o = false → BufOff w b g
  L : LedAt w g (LB k p)
  s39 : s.size ≤ 39
  k0 : 0 ≤ k
  k1 : k ≤ p
  p39 : p ≤ 39
  ks : o = true → k = (s.size : Int)
  se : o = false → s = ⟨#[]⟩
section
variable {w w' : World} {b g d : Nat} {s : ByteArray} {o : Bool} {k p : Int}
theorem BSt.alloc (h : BSt w b g d s o k p) (ob : Obj) : BSt (w.alloc ob) b g d s o k p := ⟨fun e => ⟨(h.Mo e).blk.alloc _, (h.Mo e).row.alloc _⟩, fun e => Blk.alloc (h.Mf e) _, Blk.alloc h.L _, h.s39, h.k0, h.k1, h.p39, h.ks, h.se⟩
theorem BSt.drew (h : BSt w b g d s o k p) : BSt w.drew b g d s o k p := ⟨fun e => ⟨(h.Mo e).blk, (h.Mo e).row⟩, h.Mf, h.L, h.s39, h.k0, h.k1, h.p39, h.ks, h.se⟩
theorem BSt.drewN (h : BSt w b g d s o k p) (n : Nat) : BSt (w.drewN n) b g d s o k p := ⟨fun e => ⟨(h.Mo e).blk, (h.Mo e).row⟩, h.Mf, h.L, h.s39, h.k0, h.k1, h.p39, h.ks, h.se⟩
theorem BSt.below (h : BSt w b g d s o k p) (q : Below w.heap.size w w') : BSt w' b g d s o k p :=
  ⟨fun e => ⟨Blk.below (h.Mo e).blk q (Blk.lt (h.Mo e).blk), Blk.below (h.Mo e).row q (Blk.lt (h.Mo e).row)⟩, fun e => Blk.below (h.Mf e) q (Blk.lt (h.Mf e)), Blk.below h.L q (Blk.lt h.L), h.s39, h.k0, h.k1, h.p39, h.ks, h.se⟩
theorem BSt.st3 (h : BSt w b g d s o k p) {z : Nat} (hb : b ≠ z) (hg : g ≠ z) (hd : d ≠ z) (s' : ByteArray) (o' : Bool) (k' : Int) : BSt (st3 w z s' o' k') b g d s o k p :=
  ⟨fun e => ⟨Blk.st3 (h.Mo e).blk hb, Blk.st3 (h.Mo e).row hd⟩, fun e => Blk.st3 (h.Mf e) hb, Blk.st3 h.L hg, h.s39, h.k0, h.k1, h.p39, h.ks, h.se⟩
theorem BSt.of_end {s2 : ByteArray} {o2 : Bool} {k2 : Int} (h : OneEnd w w' b g d s2 o2 (LB k2 p)) (s39 : s2.size ≤ 39) (k0 : 0 ≤ k2) (k1 : k2 ≤ p) (p39 : p ≤ 39) (ks : o2 = true → k2 = (s2.size : Int)) (se : o2 = false → s2 = ⟨#[]⟩) : BSt w' b g d s2 o2 k2 p :=
  ⟨h.1, h.2.1, h.2.2.1, s39, k0, k1, p39, ks, se⟩

def OnePost (w : World) (b g d : Nat) (p : Int) (e : Ending) (w' : World) : Prop := ∃ (s' : ByteArray) (o' : Bool) (k' : Int), e = .returned (.tuple #[.agg #[.string s', .bool o', .int .i64 k'], .bool true]) ∧ BSt w' b g d s' o' k' p ∧ Turn [b, g, d] w w'
theorem strOf_nil : strOf [] = (⟨#[]⟩ : ByteArray) := rfl
theorem empty_size : (⟨#[]⟩ : ByteArray).size = 0 := rfl

theorem one_any {K I N V : Int} {x : ByteArray} (h : BSt w b g d s o k p) (hI : fitI I) (hN : fitI N) (hV : 0 ≤ V ∧ V ≤ 255) (hx : x.size ≤ 100) (hb : b < w.heap.size) (hg : g < w.heap.size) (hd : d < w.heap.size) :
    Calls Try.prog 38 #[.pointer (some ⟨b, 0, none⟩), .agg #[.string s, .bool o, .int .i64 k], .agg #[.int .i64 K, .int .i64 I, .int .i64 N, .int .u8 V, .string x]] w (OnePost w b g d p) := by
  have hs : s.size ≤ 1000 := by have := h.s39; omega
  have hx' : x.size ≤ 1000 := by omega
  have s39 := h.s39
  obtain ⟨c8, rfl⟩ : ∃ c : UInt8, V = (c.toNat : Int) := ⟨UInt8.ofNat V.toNat, by simp; omega⟩
  have same : ∀ {e : Ending} {w' : World}, e = .returned (.tuple #[.agg #[.string s, .bool o, .int .i64 k], .bool true]) ∧ OneEnd w w' b g d s o (LB k p) → OnePost w b g d p e w' := by
    rintro e w' ⟨rfl, q⟩
    exact ⟨s, o, k, rfl, BSt.of_end q h.s39 h.k0 h.k1 h.p39 h.ks h.se, q.2.2.2⟩
  by_cases hk : K < 1 ∨ 7 < K
  · cases o
    · exact (one_else_false hs hx' hb hg hd (h.Mf rfl) h.L hk).mono fun e w' q => same q
    · exact (one_else_true hs hx' hb hg hd (h.Mo rfl) h.L hk).mono fun e w' q => same q
  cases o
  · have hse := h.se rfl
    subst hse
    have hno : ∀ i n : Int, ¬ ThereP (⟨#[]⟩ : ByteArray).size false i n := fun i n q => absurd q.1 (by decide)
    obtain rfl | rfl | rfl | rfl | rfl | rfl | rfl : K = 1 ∨ K = 2 ∨ K = 3 ∨ K = 4 ∨ K = 5 ∨ K = 6 ∨ K = 7 := by omega
    · exact (one_at_off hs hx' hb hg hd (h.Mf rfl) h.L hI (hno _ _)).mono fun e w' q => same q
    · exact (one_set_off hs hx' hb hg hd (h.Mf rfl) h.L hI (hno _ _)).mono fun e w' q => same q
    · exact (one_put_off hs hx' hb hg hd (h.Mf rfl) h.L hI (hno _ _)).mono fun e w' q => same q
    · exact (one_fill_off hs hx' hb hg hd (h.Mf rfl) h.L hI hN (hno _ _)).mono fun e w' q => same q
    · exact (one_get_off hs hx' hb hg hd (h.Mf rfl) h.L hI hN (hno _ _)).mono fun e w' q => same q
    · exact (one_free_shut hs hx' hb hg hd (h.Mf rfl) h.L).mono fun e w' q => same q
    · exact (one_out_shut (s := ⟨#[]⟩) hs hx' hb hg hd (h.Mf rfl) h.L).mono fun e w' q => same q
  · have hMo := h.Mo rfl
    have put : ∀ {e : Ending} {w' : World} (y : ByteArray) (i : Nat), i + y.size ≤ s.size → e = .returned (.tuple #[.agg #[.string (putS s y i), .bool true, .int .i64 k], .bool true]) ∧ OneEnd w w' b g d (putS s y i) true (LB k p) → OnePost w b g d p e w' := by
      rintro e w' y i hi ⟨rfl, q⟩
      have hz := putS_size s y i hi
      exact ⟨_, true, k, rfl, BSt.of_end q (by omega) h.k0 h.k1 h.p39 (fun _ => by rw [hz]; exact h.ks rfl) (fun e => absurd e (by decide)), q.2.2.2⟩
    obtain rfl | rfl | rfl | rfl | rfl | rfl | rfl : K = 1 ∨ K = 2 ∨ K = 3 ∨ K = 4 ∨ K = 5 ∨ K = 6 ∨ K = 7 := by omega
    · by_cases ht : ThereP s.size true I 1
      · obtain ⟨_, i0, n0, hin⟩ := ht
        obtain ⟨i, rfl⟩ := Int.eq_ofNat_of_zero_le i0
        exact (one_at_yes hs hx' hb hg hd hMo h.L (by omega)).mono fun e w' q => same q
      · exact (one_at_no hs hx' hb hg hd hMo h.L hI ht).mono fun e w' q => same q
    · by_cases ht : ThereP s.size true I 1
      · obtain ⟨_, i0, n0, hin⟩ := ht
        obtain ⟨i, rfl⟩ := Int.eq_ofNat_of_zero_le i0
        exact (one_set_yes hs hx' hb hg hd hMo h.L (by omega)).mono fun e w' q => put _ _ (by rw [strOf_size]; simp only [List.length_cons, List.length_nil]; omega) q
      · exact (one_set_no hs hx' hb hg hd hMo h.L hI ht).mono fun e w' q => same q
    · by_cases ht : ThereP s.size true I (x.size : Int)
      · obtain ⟨_, i0, n0, hin⟩ := ht
        obtain ⟨i, rfl⟩ := Int.eq_ofNat_of_zero_le i0
        exact (one_put_yes hs hx' hb hg hd hMo h.L (by omega)).mono fun e w' q => put _ _ (by omega) q
      · exact (one_put_no hs hx' hb hg hd hMo h.L hI ht).mono fun e w' q => same q
    · by_cases ht : ThereP s.size true I N
      · obtain ⟨_, i0, n0, hin⟩ := ht
        obtain ⟨i, rfl⟩ := Int.eq_ofNat_of_zero_le i0
        obtain ⟨n, rfl⟩ := Int.eq_ofNat_of_zero_le n0
        exact (one_fill_yes hs hx' hb hg hd hMo h.L (by omega)).mono fun e w' q => put _ _ (by rw [strOf_size, List.length_replicate]; omega) q
      · exact (one_fill_no hs hx' hb hg hd hMo h.L hI hN ht).mono fun e w' q => same q
    · by_cases ht : ThereP s.size true I N
      · obtain ⟨_, i0, n0, hin⟩ := ht
        obtain ⟨i, rfl⟩ := Int.eq_ofNat_of_zero_le i0
        obtain ⟨n, rfl⟩ := Int.eq_ofNat_of_zero_le n0
        exact (one_get_yes hs hx' hb hg hd hMo h.L (by omega)).mono fun e w' q => same q
      · exact (one_get_no hs hx' hb hg hd hMo h.L hI hN ht).mono fun e w' q => same q
    · have hks := h.ks rfl
      have k0 := h.k0
      have k1 := h.k1
      have p39 := h.p39
      refine (one_free_open (z := 0) (y2 := LB 0 p) hs hx' hb hg hd hMo h.L (LB.ok k0 k1 (by omega)) (by rw [lb_give (by omega) (by omega), hks, Int.sub_self]) (by omega) (by omega)).mono ?_
      rintro e w' ⟨rfl, q⟩
      exact ⟨_, false, 0, rfl, BSt.of_end q (by rw [empty_size]; omega) (by omega) (by omega) p39 (fun e => absurd e (by decide)) (fun _ => rfl), q.2.2.2⟩
    · refine (one_out_open hs hx' hb hg hd hMo h.L).mono ?_
      rintro e w' ⟨rfl, q⟩
      exact ⟨_, false, k, rfl, BSt.of_end q (by rw [empty_size]; omega) h.k0 h.k1 h.p39 (fun e => absurd e (by decide)) (fun _ => rfl), q.2.2.2⟩
end
end Go.Proofs.Ytegoakfhadmblaa
