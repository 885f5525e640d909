/- The chapter's example of a file of TGA's. Arguments opened: a head by value. Arguments opened: an image by value. Arguments opened: tga's options by value. -/
import Derived.Test.YtlehkgkomjojmaaGreatGTgaW
import Derived.Test.YtlehkgkomjojmaaGreatGTgaBy
import Derived.Test.YtlehkgkomjojmaaGreatGFfM
import Derived.Test.YtlehkgkomjojmaaGreatGScaler
import Derived.Test.YtlehkgkomjojmaaGreatGRas
namespace Go.Proofs.YtlehkgkomjojmaaGreat
open Go.RowKit
set_option linter.unusedVariables false
set_option linter.unusedSimpArgs false

def tgaOneH : ByteArray := tgaBb (tgaBl 0 2 1 1 32 8)
def tgaOne : ByteArray := tgaOneH ++ ⟨#[1, 2, 3, 4]⟩
set_option maxRecDepth 100000 in
theorem tgaOne_told : (tgaDec tgaOne).told = .img 1 1 [3, 2, 1, 4] := by kernel_rfl
theorem tgaOne_sides : tgaSides tgaOne = (1, 1, 0) := by kernel_rfl
theorem tgaOne_byv : tgaByV 0 32 8 0 2 1 1 32 8 8 = .tuple #[.string tgaOneH, .int .i64 0] := by
 unfold tgaByV
 rw [if_pos ⟨by kernel_rfl, rfl, rfl, rfl⟩]
 rfl
set_option maxRecDepth 100000 in
set_option maxHeartbeats 2000000 in
theorem awake19_any (w : World) : Calls Tryz.prog 22 #[] w fun e w' => e = .returned (.bool true) ∧ Below w.heap.size w w' := by
 have HB0 := fun w => tgaBytes_ff (n := 0) (d := 32) (a := 8) (m := 0) (t := 2) (W := 1) (H := 1) (q := 32) (u := 8) (x := 8) (by rfl) (by decide) (by decide) (by decide) (by rfl) (by kernel_rfl) (by decide) (by rfl) w
 rw [tgaOne_byv] at HB0
 have HB : Hid (∀ w : World, Calls Tryz.prog 64 #[.agg #[.int .i64 0, .bool false, .int .i64 2, .int .i64 0, .int .i64 0, .int .i64 0, .int .i64 1, .int .i64 1, .int .i64 32, .int .i64 8, .bool false, .bool false]] w fun e w' => e = .returned (.tuple #[.string tgaOneH, .int .i64 0]) ∧ Below w.heap.size w w') := Lib.hid HB0
 have HN0 := fun w => tgaRunW (s := tgaOne) (by decide) (by rw [tgaOne_sides]; decide) (by rw [tgaOne_sides]; decide) (by rw [tgaOne_sides]; decide) w
 rw [tgaOne_told] at HN0
 have HN := Lib.hid HN0
 have ho : tgaOneH ++ ⟨#[1, 2, 3, 4]⟩ = tgaOne := rfl
 have hz : tgaOneH.size = 18 := rfl
 clear HB0 HN0
 generalize tgaOneH = h at HB ho hz
 generalize tgaOne = s at HN ho
 go_enter Tryz.func22, Tryz.ntmps22
 go_upto_region 3 with (first
  | (go_at_call 64; refine (HB.out _).mono ?_; rintro e w1 ⟨rfl, b1⟩)
  | (go_at_call 11; refine (wide15 _).mono ?_; rintro e w2 ⟨rfl, b2⟩)
  | (go_at_call 10; (try rw [ho]); refine (HN.out _).mono ?_; rintro e w3 ⟨g, y, l3, hy, b3, hor⟩; obtain ⟨W', H', l', d, hr, rfl, hbt⟩ := hor.elim (fun ⟨_, _, _, h, _⟩ => by cases h) id; injection hr with hr1 hr2 hr3; subst hr1 hr2 hr3))
 have B3 := below_next (below_next b1 b2) b3
 have T4 : BytesAt ((w3.alloc (.cells #[.int .i64 1, .int .i64 1, .slice (some ⟨d, 0, none⟩) 4 4] 24)).alloc (.cells #[.int .i64 0, .int .i64 0, .int .i64 0] 34)) (some ⟨d, 0, none⟩) 4 [3, 2, 1, 4] := (hbt.alloc _).alloc _
 have I4 : IB ((w3.alloc (.cells #[.int .i64 1, .int .i64 1, .slice (some ⟨d, 0, none⟩) 4 4] 24)).alloc (.cells #[.int .i64 0, .int .i64 0, .int .i64 0] 34)) w3.heap.size 1 1 (some ⟨d, 0, none⟩) 4 4 := Blk.alloc (Blk.new _ _ _) _
 have F4 : FB ((w3.alloc (.cells #[.int .i64 1, .int .i64 1, .slice (some ⟨d, 0, none⟩) 4 4] 24)).alloc (.cells #[.int .i64 0, .int .i64 0, .int .i64 0] 34)) (w3.heap.size + 1) 0 0 0 := Blk.new_at _ _ _ (by simp)
 have B4 : Below w.heap.size w ((w3.alloc (.cells #[.int .i64 1, .int .i64 1, .slice (some ⟨d, 0, none⟩) 4 4] 24)).alloc (.cells #[.int .i64 0, .int .i64 0, .int .i64 0] 34)) := (B3.alloc B3.size _).alloc (by have := B3.size; simp; omega) _
 clear hbt b1 b2 b3 B3 hor l3 hy
 generalize ((w3.alloc (.cells #[.int .i64 1, .int .i64 1, .slice (some ⟨d, 0, none⟩) 4 4] 24)).alloc (.cells #[.int .i64 0, .int .i64 0, .int .i64 0] 34)) = w4 at T4 I4 F4 B4 ⊢
 generalize w3.heap.size + 1 = qf at F4 ⊢
 generalize w3.heap.size = qm at I4 ⊢
 have hcv : (convert 22 9 (.slice (some ⟨d, 0, none⟩) 4 4)).run Tryz.prog w4 = .ok (.string ⟨#[3, 2, 1, 4]⟩) w4 := bytesText T4 4
 obtain ⟨c0, c1, c2, z0, z1, z2, fl⟩ := FB.all F4
 obtain ⟨e0, e1, e2, v0, v1, v2, il⟩ := IB.all I4
 go_wp2_with fail
 go_ret
 exact ⟨rfl, B4⟩
end Go.Proofs.YtlehkgkomjojmaaGreat
namespace Go.Proofs.YtlehkgkomjojmaaGreat
open Go.ChangeShapes Go.WideShapes Go.Deep Go.RowKit Go.Joins
set_option linter.unusedVariables false
section
variable {H : Type} {enc : TypeId × Value → H} {P : Program} {w : World} {base : Nat} {spare : Nat → Bool} {held : Bool}

/-- a struct of one-cell fields by value: each field's reading -/
theorem trod_fields {t : TypeId} {fs : Array Field} {cs : List Value} {x : DataW H × List MemPlace} {fuel : Nat} (hs : P.underlying t = some (.struct fs)) (hone : oneCellFields P fs = true) (h : DataW.trod enc P w base spare held fuel t cs = some x) :
  ∃ n, ∀ (j : Nat) (f : Field), fs[j]? = some f → ∃ y, DataW.trod enc P w base spare held n f.type ((cs.drop j).take 1) = some y := by
 obtain ⟨ys, n', hn', hy, hlen, hyl, hf'⟩ := DataW.trod_struct hs h
 refine ⟨n', fun j f hj => ?_⟩
 obtain ⟨ho, hk⟩ := hone_of hone j f hj
 have hjl : j < fs.size := (Array.getElem?_eq_some_iff.1 hj).1
 have h1 := hf' j f hj
 rw [ho, hk] at h1
 have hys : ys[j]? = some (ys[j]'(by omega)) := List.getElem?_eq_getElem (by omega)
 exact ⟨_, h1.trans hys⟩
def fits5 (z : Int) : Prop := -9223372036854775808 ≤ z ∧ z ≤ 9223372036854775807
end
end Go.Proofs.YtlehkgkomjojmaaGreat
namespace Go.Proofs.YtlehkgkomjojmaaGreat
open Go.ChangeShapes Go.WideShapes Go.Deep Go.RowKit Go.Joins
set_option linter.unusedVariables false
section
variable {H : Type} {enc : TypeId × Value → H} {w : World} {base : Nat} {spare : Nat → Bool} {held : Bool}
theorem imgArray3 {α : Type} {cs : Array α} (h : cs.size = 3) : ∃ c0 c1 c2, cs = #[c0, c1, c2] := by
 obtain ⟨l⟩ := cs
 match l, h with
 | [c0, c1, c2], _ => exact ⟨c0, c1, c2, rfl⟩
theorem bytes_ints {a : Option Addr} {n : Nat} {l : List Int} (h : SliceInts .u8 w a n l) : ∃ m, BytesAt w a n m := by
 rcases h with h0 | ⟨b, off, rfl, hm, hl, hc⟩
 ·exact ⟨[], h0, .inl h0⟩
 ·refine ⟨l.map fun z => UInt8.ofNat z.toNat, by simp [hl], .inr ⟨b, off, rfl, fun j hj => ?_⟩⟩
  rw [List.length_map, hl] at hj
  obtain ⟨hw, hcell⟩ := hc j hj
  have hb := bounds_u8 hw
  rw [hcell]
  have e : (l.map fun z => UInt8.ofNat z.toNat)[j]'(by rw [List.length_map, hl]; exact hj) = UInt8.ofNat (l.getD j 0).toNat := by
   simp [List.getD_eq_getElem?_getD, List.getElem?_eq_getElem (show j < l.length by omega)]
  rw [e]
  have e2 : ((UInt8.ofNat (l.getD j 0).toNat).toNat : Int) = l.getD j 0 := by simp only [UInt8.toNat_ofNat']; omega
  rw [e2]
theorem slice_cap {fuel : Nat} {a : Option Addr} {l c : Nat} {y : DataW H × List MemPlace} (h : DataW.trod enc Tryz.prog w base spare held fuel 22 [.slice a l c] = some y) : l ≤ c ∧ c ≤ maxLen := by
 rcases open_slice1 Tryz.underlying22 (by kernel_rfl) h with ⟨hcs, _⟩ | ⟨a', len', cap', m, n, V, D, Pl, hcs, hb, hl, hm, hmm, hx, hi⟩
 ·simp only [List.cons.injEq, Value.slice.injEq] at hcs
  obtain ⟨⟨rfl, rfl, rfl⟩, _⟩ := hcs
  exact ⟨Nat.le_refl _, Nat.zero_le _⟩
 ·simp only [List.cons.injEq, Value.slice.injEq] at hcs
  obtain ⟨⟨rfl, rfl, rfl⟩, _⟩ := hcs
  exact ⟨hl, hm⟩
set_option maxRecDepth 100000 in
theorem img_of {r : Reach} {b0 : Nat} {v : Value} {d : DataW H} {p : List MemPlace} (hsp : ∀ b, spare b = true) (hv : Value.okWide Tryz.prog w r b0 24 v) (h : DataW.Trod enc Tryz.prog w base spare held 24 v d p) :
  ∃ (W H : Int) (a : Option Addr) (n c : Nat) (m : List UInt8), (fits5 W ∧ fits5 H ∧ BytesAt w a n m ∧ n ≤ c ∧ c ≤ maxLen) ∧ v = .agg #[.int .i64 W, .int .i64 H, .slice a n c] := by
 obtain ⟨cs, rfl, hsz⟩ := okWide_struct Tryz.underlying24 hv
 obtain ⟨v0, v1, v2, rfl⟩ := imgArray3 (hsz.trans (by kernel_rfl))
 obtain ⟨fuel, hf⟩ := h
 obtain ⟨n, hn⟩ := trod_fields Tryz.underlying24 (by kernel_rfl) hf
 obtain ⟨y0, t0⟩ := hn 0 _ rfl
 obtain ⟨y1, t1⟩ := hn 1 _ rfl
 obtain ⟨y2, t2⟩ := hn 2 _ rfl
 obtain ⟨k0, e0, _, f0⟩ := DataW.trod_int Tryz.underlying3 t0
 obtain ⟨k1, e1, _, f1⟩ := DataW.trod_int Tryz.underlying3 t1
 obtain ⟨a, l, c, e2⟩ := slice_form Tryz.underlying22 t2
 obtain rfl : v0 = .int .i64 k0 := by simpa [Value.cells] using e0
 obtain rfl : v1 = .int .i64 k1 := by simpa [Value.cells] using e1
 obtain rfl : v2 = .slice a l c := by simpa [Value.cells] using e2
 obtain ⟨li, hi⟩ := ints_of Tryz.underlying22 Tryz.underlying5 (by kernel_rfl) hsp ⟨n, t2⟩
 obtain ⟨m, hm⟩ := bytes_ints hi
 have hcap := slice_cap (by simpa [Value.cells] using t2)
 exact ⟨k0, k1, a, l, c, m, ⟨bounds_i64 f0, bounds_i64 f1, hm, hcap.1, hcap.2⟩, rfl⟩
end
end Go.Proofs.YtlehkgkomjojmaaGreat
namespace Go.Proofs.YtlehkgkomjojmaaGreat
open Go.ChangeShapes Go.WideShapes Go.Deep Go.RowKit Go.Joins
set_option linter.unusedVariables false
section
variable {H : Type} {enc : TypeId × Value → H} {P : Program} {w : World} {base : Nat} {spare : Nat → Bool} {held : Bool}
theorem array6 {α : Type} {cs : Array α} (h : cs.size = 6) : ∃ c0 c1 c2 c3 c4 c5, cs = #[c0, c1, c2, c3, c4, c5] := by
 obtain ⟨l⟩ := cs
 match l, h with
 | [c0, c1, c2, c3, c4, c5], _ => exact ⟨c0, c1, c2, c3, c4, c5, rfl⟩
set_option maxRecDepth 100000 in
theorem tgaOpt_of {r : Reach} {b0 : Nat} {v : Value} {d : DataW H} {p : List MemPlace} (hv : Value.okWide Tryz.prog w r b0 56 v) (h : DataW.Trod enc Tryz.prog w base spare held 56 v d p) :
  ∃ (pk : Bool) (b a : Int) (l t : Bool) (s : ByteArray), (fits5 b ∧ fits5 a ∧ s.size ≤ maxLen) ∧ v = .agg #[.bool pk, .int .i64 b, .int .i64 a, .bool l, .bool t, .string s] := by
 obtain ⟨cs, rfl, hsz⟩ := okWide_struct Tryz.underlying56 hv
 obtain ⟨v0, v1, v2, v3, v4, v5, rfl⟩ := array6 (hsz.trans (by kernel_rfl))
 obtain ⟨fuel, hf⟩ := h
 obtain ⟨n, hn⟩ := trod_fields Tryz.underlying56 (by kernel_rfl) hf
 obtain ⟨y0, t0⟩ := hn 0 _ rfl
 obtain ⟨y1, t1⟩ := hn 1 _ rfl
 obtain ⟨y2, t2⟩ := hn 2 _ rfl
 obtain ⟨y3, t3⟩ := hn 3 _ rfl
 obtain ⟨y4, t4⟩ := hn 4 _ rfl
 obtain ⟨y5, t5⟩ := hn 5 _ rfl
 obtain ⟨k0, e0, _⟩ := DataW.trod_bool Tryz.underlying4 t0
 obtain ⟨k1, e1, _, f1⟩ := DataW.trod_int Tryz.underlying3 t1
 obtain ⟨k2, e2, _, f2⟩ := DataW.trod_int Tryz.underlying3 t2
 obtain ⟨k3, e3, _⟩ := DataW.trod_bool Tryz.underlying4 t3
 obtain ⟨k4, e4, _⟩ := DataW.trod_bool Tryz.underlying4 t4
 obtain ⟨k5, e5, _, f5⟩ := DataW.trod_string Tryz.underlying9 t5
 obtain rfl : v0 = .bool k0 := by simpa [Value.cells] using e0
 obtain rfl : v1 = .int .i64 k1 := by simpa [Value.cells] using e1
 obtain rfl : v2 = .int .i64 k2 := by simpa [Value.cells] using e2
 obtain rfl : v3 = .bool k3 := by simpa [Value.cells] using e3
 obtain rfl : v4 = .bool k4 := by simpa [Value.cells] using e4
 obtain rfl : v5 = .string k5 := by simpa [Value.cells] using e5
 exact ⟨k0, k1, k2, k3, k4, k5, ⟨bounds_i64 f1, bounds_i64 f2, f5⟩, rfl⟩
end
end Go.Proofs.YtlehkgkomjojmaaGreat
