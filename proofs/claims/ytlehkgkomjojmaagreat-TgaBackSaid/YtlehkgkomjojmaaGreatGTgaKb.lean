/- tga: the head that options tell; whether there are such files. scale.Least by its contract, and the walk of ScaleLeast. tgapix: five bits of a channel; a colour as two bytes. -/
import Derived.Test.YtlehkgkomjojmaaGreatGTgaBy
import Derived.Test.YtlehkgkomjojmaaGreatGScaler
import Derived.OpenShut
import Derived.Test.YtlehkgkomjojmaaGreatGTgaG
namespace Go.Proofs.YtlehkgkomjojmaaGreat
open Go.RowKit
set_option linter.unusedVariables false
set_option linter.unusedSimpArgs false

/-- may a file be written so? -/
def TgaMay (b al : Int) (n : Nat) : Prop := (b = 8 ∨ b = 15 ∨ b = 16 ∨ b = 24 ∨ b = 32) ∧ (al = 0 ∨ (b = 32 ∧ al = 8) ∨ (b = 16 ∧ al = 1)) ∧ n ≤ 255
instance (b al : Int) (n : Nat) : Decidable (TgaMay b al n) := by unfold TgaMay; infer_instance
def tgaTyp (pk : Bool) (b : Int) : Nat := (if b = 8 then 3 else 2) + (if pk then 8 else 0)
theorem and15 (a : Int) : ∃ u : Nat, u < 16 ∧ bits .and .i64 a 15 = (u : Int) ∧ (0 ≤ a → a < 16 → (u : Int) = a) := by
 refine ⟨(BitVec.ofInt 64 a).toNat % 16, by omega, ?_, ?_⟩
 ·show IntKind.i64.wrap ((BitVec.ofInt 64 a &&& BitVec.ofInt 64 15).toNat : Int) = _
  rw [BitVec.toNat_and]
  have e : (BitVec.ofInt 64 15).toNat = 2 ^ 4 - 1 := by decide
  rw [e, Nat.and_two_pow_sub_one_eq_mod]
  rw [IntKind.wrap_i64]
  have : (BitVec.ofInt 64 a).toNat % 2 ^ 4 < 16 := Nat.mod_lt _ (by decide)
  generalize (BitVec.ofInt 64 a).toNat % 2 ^ 4 = y at this ⊢
  omega
 ·intro h0 h1
  obtain ⟨k, rfl⟩ := Int.eq_ofNat_of_zero_le h0
  rw [ofInt64_nat k (by omega)]
  omega
theorem tgaChks_may {t W H q x u : Nat} (ht : t = 2 ∨ t = 3 ∨ t = 10 ∨ t = 11) (hW : 1 ≤ W ∧ W ≤ 16384) (hH : 1 ≤ H ∧ H ≤ 16384) (hx : x < 64) (hu : x % 16 = u) : firstBad (tgaChks 0 t 0 0 W H q x) = none ↔ TgaDepth t q ∧ TgaAlpha q u := by
 constructor
 ·intro h
  have a := firstBad_none h
  simp only [tgaChks, List.mem_cons, List.not_mem_nil, or_false, forall_eq_or_imp, forall_eq, decide_eq_false_iff_not, Bool.not_eq_false', decide_eq_true_eq] at a
  obtain ⟨a1, a2, a3, a4, a5, a6, a7, a8, a9, a10, a11, a12⟩ := a
  rw [hu] at a12
  exact ⟨a10, a12⟩
 ·rintro ⟨h1, h2⟩
  refine firstBad_all ?_
  rw [← hu] at h2
  have hk : TgaKnown t := by unfold TgaKnown TgaPacked; omega
  simp only [tgaChks, List.mem_cons, List.not_mem_nil, or_false, forall_eq_or_imp, forall_eq, decide_eq_false_iff_not, Bool.not_eq_false', decide_eq_true_eq]
  exact ⟨by omega, hk, by unfold tgaPlain TgaPacked; rcases ht with rfl | rfl | rfl | rfl <;> decide, by omega, by omega, by omega, by omega, by omega, by omega, h1, by omega, h2⟩
theorem tgaRight_iff {b al : Int} {n m q u x W H : Nat} {pk : Bool} (hn : ((n : Int) % 256) = (m : Int)) (hb : b % 256 = (q : Int)) (hu : u < 16) (hua : 0 ≤ al → al < 16 → (u : Int) = al) (hW : 1 ≤ W ∧ W ≤ 16384) (hH : 1 ≤ H ∧ H ≤ 16384) (hx : x < 64) (hxu : x % 16 = u) :
  (firstBad (tgaChks 0 (tgaTyp pk b) 0 0 W H q x) = none ∧ (n : Int) = (m : Int) ∧ b = (q : Int) ∧ al = (u : Int)) ↔ TgaMay b al n := by
 have ht : tgaTyp pk b = 2 ∨ tgaTyp pk b = 3 ∨ tgaTyp pk b = 10 ∨ tgaTyp pk b = 11 := by unfold tgaTyp; split <;> split <;> simp
 rw [tgaChks_may ht hW hH hx hxu]
 have hp : tgaPlain (tgaTyp pk b) = if b = 8 then 3 else 2 := by
  unfold tgaPlain tgaTyp TgaPacked
  by_cases h8 : b = 8 <;> cases pk <;> simp [h8]
 unfold TgaDepth TgaMay TgaAlpha
 rw [hp]
 by_cases h8 : b = 8
 ·rw [if_pos h8]
  simp only [show ¬ ((3 : Nat) = 2) by decide, if_false]
  constructor
  ·rintro ⟨⟨h1, h2⟩, h3, h4, h5⟩
   refine ⟨.inl h8, ?_, by omega⟩
   omega
  ·rintro ⟨h1, h2, h3⟩
   have : (u : Int) = al := hua (by omega) (by omega)
   refine ⟨⟨by omega, by omega⟩, by omega, by omega, by omega⟩
 ·rw [if_neg h8]
  simp only [if_true]
  unfold TgaCol
  constructor
  ·rintro ⟨⟨h1, h2⟩, h3, h4, h5⟩
   refine ⟨by omega, by omega, by omega⟩
  ·rintro ⟨h1, h2, h3⟩
   have : (u : Int) = al := hua (by omega) (by omega)
   refine ⟨⟨by omega, by omega⟩, by omega, by omega, by omega⟩
def optV (pk : Bool) (b al : Int) (l p : Bool) (nm : ByteArray) : Value := .agg #[.bool pk, .int .i64 b, .int .i64 al, .bool l, .bool p, .string nm]
set_option maxRecDepth 100000 in
set_option maxHeartbeats 2000000 in
theorem optHeadC {pk : Bool} {b al : Int} {l p : Bool} {nm : ByteArray} {W H : Nat} {a : Option Addr} {n c : Nat} (hW : W ≤ 16384) (hH : H ≤ 16384) (w : World) :
  Calls Tryz.prog 66 #[optV pk b al l p nm, .agg #[.int .i64 (W : Int), .int .i64 (H : Int), .slice a n c]] w fun e w' => e = .returned (.agg #[.int .i64 (nm.size : Int), .bool false, .int .i64 (tgaTyp pk b : Int), .int .i64 0, .int .i64 0, .int .i64 0, .int .i64 (W : Int), .int .i64 (H : Int), .int .i64 b, .int .i64 al, .bool l, .bool p]) ∧ Below w.heap.size w w' := by
 unfold optV
 cases pk with
 | false =>
  by_cases h8 : b = 8
  ·subst h8
   rw [show ((tgaTyp false 8 : Nat) : Int) = 3 from rfl]
   go_enter Tryz.func66, Tryz.ntmps66
   go_wp2_with fail
   exact bodyPost_ret (v := .agg #[.int .i64 (nm.size : Int), .bool false, .int .i64 3, .int .i64 0, .int .i64 0, .int .i64 0, .int .i64 (W : Int), .int .i64 (H : Int), .int .i64 8, .int .i64 al, .bool l, .bool p]) (by simp [results, Tryz.results66, go_sem]) rfl ⟨rfl, ((((Below.refl _ _).alloc (Nat.le_refl _) _).alloc (by simp) _).alloc (by simp; omega) _).alloc (by simp; omega) _⟩
  ·rw [show ((tgaTyp false b : Nat) : Int) = 2 by unfold tgaTyp; rw [if_neg h8]; rfl]
   go_enter Tryz.func66, Tryz.ntmps66
   go_wp2_with fail
   exact bodyPost_ret (v := .agg #[.int .i64 (nm.size : Int), .bool false, .int .i64 2, .int .i64 0, .int .i64 0, .int .i64 0, .int .i64 (W : Int), .int .i64 (H : Int), .int .i64 b, .int .i64 al, .bool l, .bool p]) (by simp [results, Tryz.results66, go_sem]) rfl ⟨rfl, ((((Below.refl _ _).alloc (Nat.le_refl _) _).alloc (by simp) _).alloc (by simp; omega) _).alloc (by simp; omega) _⟩
 | true =>
  by_cases h8 : b = 8
  ·subst h8
   rw [show ((tgaTyp true 8 : Nat) : Int) = 11 from rfl]
   go_enter Tryz.func66, Tryz.ntmps66
   go_wp2_with fail
   exact bodyPost_ret (v := .agg #[.int .i64 (nm.size : Int), .bool false, .int .i64 11, .int .i64 0, .int .i64 0, .int .i64 0, .int .i64 (W : Int), .int .i64 (H : Int), .int .i64 8, .int .i64 al, .bool l, .bool p]) (by simp [results, Tryz.results66, go_sem]) rfl ⟨rfl, ((((Below.refl _ _).alloc (Nat.le_refl _) _).alloc (by simp) _).alloc (by simp; omega) _).alloc (by simp; omega) _⟩
  ·rw [show ((tgaTyp true b : Nat) : Int) = 10 by unfold tgaTyp; rw [if_neg h8]; rfl]
   go_enter Tryz.func66, Tryz.ntmps66
   go_wp2_with fail
   exact bodyPost_ret (v := .agg #[.int .i64 (nm.size : Int), .bool false, .int .i64 10, .int .i64 0, .int .i64 0, .int .i64 0, .int .i64 (W : Int), .int .i64 (H : Int), .int .i64 b, .int .i64 al, .bool l, .bool p]) (by simp [results, Tryz.results66, go_sem]) rfl ⟨rfl, ((((Below.refl _ _).alloc (Nat.le_refl _) _).alloc (by simp) _).alloc (by simp; omega) _).alloc (by simp; omega) _⟩
set_option maxRecDepth 100000 in
set_option maxHeartbeats 2000000 in
theorem optRightC {pk : Bool} {b al : Int} {l p : Bool} {nm : ByteArray} (hn : nm.size ≤ 300) (w : World) :
  Calls Tryz.prog 65 #[optV pk b al l p nm] w fun e w' => e = .returned (.bool (decide (TgaMay b al nm.size))) ∧ Below w.heap.size w w' := by
 obtain ⟨u, hu, hua, hub⟩ := and15 al
 obtain ⟨q, hq⟩ : ∃ q : Nat, b % 256 = (q : Int) := ⟨(b % 256).toNat, by omega⟩
 obtain ⟨x, hx⟩ : ∃ x, u + (if l then 16 else 0) + (if p then 32 else 0) = x := ⟨_, rfl⟩
 have hm : ((nm.size : Int) % 256) = ((nm.size % 256 : Nat) : Int) := by omega
 have hx64 : x < 64 := by rw [← hx]; split <;> split <;> omega
 have hxu : x % 16 = u := by rw [← hx]; split <;> split <;> omega
 have ht : tgaTyp pk b ≤ 255 := by unfold tgaTyp; split <;> split <;> omega
 have HB0 := fun w => tgaBytesC (n := (nm.size : Int)) (d := b) (a := al) (m := nm.size % 256) (t := tgaTyp pk b) (W := 1) (H := 1) (q := q) (u := u) (x := x) (l := l) (p := p) hm ht (by decide) (by decide) hq hua hu hx w
 have hiff := tgaRight_iff (b := b) (al := al) (n := nm.size) (m := nm.size % 256) (q := q) (u := u) (x := x) (W := 1) (H := 1) (pk := pk) hm hq hu hub ⟨by decide, by decide⟩ ⟨by decide, by decide⟩ hx64 hxu
 have HH0 := fun w => optHeadC (pk := pk) (b := b) (al := al) (l := l) (p := p) (nm := nm) (W := 1) (H := 1) (a := none) (n := 0) (c := 0) (by decide) (by decide) w
 unfold tgaByV at HB0
 unfold optV at HH0 ⊢
 generalize tgaTyp pk b = t at HB0 HH0 hiff
 have HH : Hid (∀ w : World, Calls Tryz.prog 66 #[.agg #[.bool pk, .int .i64 b, .int .i64 al, .bool l, .bool p, .string nm], .agg #[.int .i64 1, .int .i64 1, .slice none 0 0]] w fun e w' => e = .returned (.agg #[.int .i64 (nm.size : Int), .bool false, .int .i64 (t : Int), .int .i64 0, .int .i64 0, .int .i64 0, .int .i64 1, .int .i64 1, .int .i64 b, .int .i64 al, .bool l, .bool p]) ∧ Below w.heap.size w w') := Lib.hid HH0
 by_cases hmay : TgaMay b al nm.size
 ·rw [decide_eq_true hmay]
  simp only [if_pos (hiff.2 hmay)] at HB0
  have HB : Hid (∀ w : World, Calls Tryz.prog 64 #[.agg #[.int .i64 (nm.size : Int), .bool false, .int .i64 (t : Int), .int .i64 0, .int .i64 0, .int .i64 0, .int .i64 1, .int .i64 1, .int .i64 b, .int .i64 al, .bool l, .bool p]] w fun e w' => e = .returned (.tuple #[.string (tgaBb (tgaBl (nm.size % 256) t 1 1 q x)), .int .i64 0]) ∧ Below w.heap.size w w') := Lib.hid HB0
  generalize tgaBb (tgaBl (nm.size % 256) t 1 1 q x) = bb at HB
  clear HB0 HH0 hiff hmay hm ht hx64 hxu hx hq hua hub hu
  go_enter Tryz.func65, Tryz.ntmps65
  go_wp2_with (first
   | (go_at_call 66; refine (HH.out _).mono ?_; rintro e w1 ⟨rfl, b1⟩; have hz1 := b1.size)
   | (go_at_call 64; refine (HB.out _).mono ?_; rintro e w2 ⟨rfl, b2⟩))
  go_ret
  have B1 := below_next ((Below.refl w.heap.size w).alloc (Nat.le_refl _) _) b1
  exact ⟨rfl, below_next (B1.alloc B1.size _) b2⟩
 ·rw [decide_eq_false hmay]
  simp only [if_neg (fun e => hmay (hiff.1 e))] at HB0
  have HB : Hid (∀ w : World, Calls Tryz.prog 64 #[.agg #[.int .i64 (nm.size : Int), .bool false, .int .i64 (t : Int), .int .i64 0, .int .i64 0, .int .i64 0, .int .i64 1, .int .i64 1, .int .i64 b, .int .i64 al, .bool l, .bool p]] w fun e w' => e = .returned (.tuple #[.string ⟨#[]⟩, .int .i64 6]) ∧ Below w.heap.size w w') := Lib.hid HB0
  clear HB0 HH0 hiff hmay hm ht hx64 hxu hx hq hua hub hu
  go_enter Tryz.func65, Tryz.ntmps65
  go_wp2_with (first
   | (go_at_call 66; refine (HH.out _).mono ?_; rintro e w1 ⟨rfl, b1⟩; have hz1 := b1.size)
   | (go_at_call 64; refine (HB.out _).mono ?_; rintro e w2 ⟨rfl, b2⟩))
  go_ret
  have B1 := below_next ((Below.refl w.heap.size w).alloc (Nat.le_refl _) _) b1
  exact ⟨rfl, below_next (B1.alloc B1.size _) b2⟩
end Go.Proofs.YtlehkgkomjojmaaGreat
namespace Go.Proofs.YtlehkgkomjojmaaGreat
set_option linter.unusedVariables false
open Go.RowKit

/-- x is the least sample that is told as at least v -/
structure Lst (v m x : Int) : Prop where
 lo : 0 ≤ x
 hi : x ≤ m
 less : ∀ y, 0 ≤ y → y < x → sround y m < v
 there : v ≤ sround x m

theorem Lst.of_le {v m x y : Int} (h1 : 1 ≤ m) (h : Lst v m x) (hy : x ≤ y) : v ≤ sround y m := Int.le_trans h.there (sround_mono h1 hy)

theorem exists_lst {v m : Int} (h1 : 1 ≤ m) (h2 : v ≤ 255) : ∃ x, Lst v m x := by
 have key : ∀ n : Nat, (n : Int) ≤ m → v ≤ sround n m → ∃ x, Lst v m x := by
  intro n
  induction n with
  | zero => exact fun h h' => ⟨0, by omega, by omega, fun y a b => by omega, h'⟩
  | succ n ih =>
   intro h h'
   by_cases hv : v ≤ sround n m
   ·exact ih (by omega) hv
   ·refine ⟨((n + 1 : Nat) : Int), by omega, h, fun y a b => ?_, h'⟩
    have := sround_mono (a := y) (b := n) h1 (by omega)
    omega
 refine key m.toNat (by omega) ?_
 have e : ((m.toNat : Nat) : Int) = m := by omega
 rw [e, sround_top h1]
 exact h2

set_option maxRecDepth 100000 in
theorem scaleLeast_in (v m x : Int) (b : Bool) (w : World) (h1 : 1 ≤ m) (h2 : m ≤ 4294967295) (hx : Lst v m x) (hb : (sround x m == v) = b) :
  Calls Tryz.prog 207 #[.int .u8 v, .int .i64 m] w fun e w' => e = .returned (.tuple #[.int .i64 (if b = true then x else 0), .bool b]) ∧ w = w' := by
 have q1 := hx.lo
 have q2 := hx.hi
 go_enter Tryz.func207, Tryz.ntmps207
 go_wp2_with fail
 go_loop [6, 7] (fun l h => ∃ lo hi : Int, 0 ≤ lo ∧ lo ≤ x ∧ x ≤ hi ∧ hi ≤ m ∧ l = .int .i64 lo ∧ h = .int .i64 hi) (fun l h => (intOf h - intOf l).toNat)
 case atStart => exact ⟨0, m, by omega, by omega, by omega, by omega, rfl, rfl⟩
 case round =>
  obtain ⟨lo, hi, r1, r2, r3, r4, rfl, rfl⟩ := hrel
  by_cases hlt : lo < hi
  ·have m1 : lo ≤ (lo + hi) / 2 := by omega
   have m2 : (lo + hi) / 2 < hi := by omega
   by_cases hc : sround ((lo + hi) / 2) m < v
   ·have m3 : (lo + hi) / 2 < x := by
     rcases Int.lt_or_le ((lo + hi) / 2) x with g | g
     ·exact g
     ·have := hx.of_le h1 g; omega
    have hr := sround_range (v := (lo + hi) / 2) h1 (by omega) (by omega)
    go_wp2_with (go_at_call 212; refine (scaleMax_yes _ _ _ (smay_iff.2 ⟨by omega, by omega, by omega, by omega⟩)).mono ?_; rintro e w' ⟨rfl, rfl⟩)
    go_round
    case rel => exact ⟨(lo + hi) / 2 + 1, hi, by omega, by omega, by omega, by omega, rfl, rfl⟩
    case measure => simp [intOf]; omega
   ·have m3 : x ≤ (lo + hi) / 2 := by
     rcases Int.lt_or_le ((lo + hi) / 2) x with g | g
     ·have := hx.less _ (by omega) g; omega
     ·exact g
    have hr := sround_range (v := (lo + hi) / 2) h1 (by omega) (by omega)
    go_wp2_with (go_at_call 212; refine (scaleMax_yes _ _ _ (smay_iff.2 ⟨by omega, by omega, by omega, by omega⟩)).mono ?_; rintro e w' ⟨rfl, rfl⟩)
    go_round
    case rel => exact ⟨lo, (lo + hi) / 2, by omega, by omega, by omega, by omega, rfl, rfl⟩
    case measure => simp [intOf]; omega
  ·obtain rfl : lo = x := by omega
   have hr := sround_range (v := lo) h1 (by omega) (by omega)
   cases b
   ·have hb' : (sround lo m != v) = true := by simpa [bne] using hb
    clear hb
    go_wp2_with (go_at_call 212; refine (scaleMax_yes _ _ _ (smay_iff.2 ⟨by omega, by omega, by omega, by omega⟩)).mono ?_; rintro e w' ⟨rfl, rfl⟩)
    go_ret2
    exact ⟨rfl, rfl⟩
   ·have hb' : (sround lo m != v) = false := by simpa [bne] using hb
    clear hb
    go_wp2_with (go_at_call 212; refine (scaleMax_yes _ _ _ (smay_iff.2 ⟨by omega, by omega, by omega, by omega⟩)).mono ?_; rintro e w' ⟨rfl, rfl⟩)
    go_ret2
    exact ⟨rfl, rfl⟩

end Go.Proofs.YtlehkgkomjojmaaGreat
namespace Go.Proofs.YtlehkgkomjojmaaGreat
open Go.RowKit
set_option linter.unusedVariables false
set_option linter.unusedSimpArgs false

theorem u8_of {v : Int} (h0 : 0 ≤ v) (h1 : v < 256) : ∃ x : UInt8, v = (x.toNat : Int) := by
 refine ⟨UInt8.ofNat v.toNat, ?_⟩
 rw [UInt8.toNat_ofNat_of_lt' (by show v.toNat < 256; omega)]
 omega
theorem bytesMade {w : World} {d : Nat} {l : List UInt8} (h : Blk w d 5 (C8 l).toArray) : BytesAt w (some ⟨d, 0, none⟩) l.length l := by
 refine ⟨rfl, .inr ⟨d, 0, rfl, fun j hj => ?_⟩⟩
 rw [Nat.zero_add, Blk.cell h j]
 simp [C8, List.getElem?_eq_getElem hj]
theorem convMade {wx : World} {k : Nat} (hk : k = wx.heap.size) (l : List UInt8) : (convert 22 9 (.slice (some ⟨k, 0, none⟩) l.length l.length)).run Tryz.prog (wx.alloc (.cells (C8 l).toArray 5)) = .ok (.string (strOf l)) (wx.alloc (.cells (C8 l).toArray 5)) :=
 bytesText (bytesMade (Blk.new_at _ _ _ hk)) _
theorem tgaFiveE (v : Int) (h0 : 0 ≤ v) (h1 : v ≤ 255) : ∃ (n : Nat) (b : Bool), n ≤ 31 ∧ ∀ w, Calls Tryz.prog 195 #[.int .u8 v] w fun e w' => e = .returned (.tuple #[.int .i64 (n : Int), .bool b]) ∧ w = w' := by
 obtain ⟨x, hx⟩ := exists_lst (v := v) (m := 31) (by decide) h1
 have q1 := hx.lo
 have q2 := hx.hi
 obtain ⟨n, hn⟩ : ∃ n : Nat, (if (sround x 31 == v) = true then x else 0) = (n : Int) := by
  split
  ·exact ⟨x.toNat, by omega⟩
  ·exact ⟨0, rfl⟩
 refine ⟨n, (sround x 31 == v), by split at hn <;> omega, fun w => ?_⟩
 have H := Lib.hid (fun w => scaleLeast_in v 31 x (sround x 31 == v) w (by decide) (by decide) hx rfl)
 rw [hn] at H
 generalize (sround x 31 == v) = b at H
 clear hn hx q1 q2
 go_enter Tryz.func195, Tryz.ntmps195
 go_wp2_with (go_at_call 207; refine (H.out _).mono ?_; rintro e w' ⟨rfl, rfl⟩)
 go_ret2
 exact ⟨rfl, rfl⟩
set_option maxRecDepth 100000 in
set_option maxHeartbeats 2000000 in
theorem tgaShortC {r g b a : Nat} {hi : Bool} (hr : r ≤ 255) (hg : g ≤ 255) (hb : b ≤ 255) (w : World) :
  Calls Tryz.prog 170 #[.agg #[.int .u8 (r : Int), .int .u8 (g : Int), .int .u8 (b : Int), .int .u8 (a : Int)], .bool hi] w fun e w' => Below w.heap.size w w' ∧ (e = .returned (.tuple #[.string ⟨#[]⟩, .bool false]) ∨ ∃ x y : UInt8, e = .returned (.tuple #[.string (strOf [x, y]), .bool true])) := by
 obtain ⟨nr, br, hnr, Hr⟩ := tgaFiveE (r : Int) (by omega) (by omega)
 obtain ⟨ng, bg, hng, Hg⟩ := tgaFiveE (g : Int) (by omega) (by omega)
 obtain ⟨nb, bb, hnb, Hb⟩ := tgaFiveE (b : Int) (by omega) (by omega)
 have HR := Lib.hid Hr
 have HG := Lib.hid Hg
 have HB := Lib.hid Hb
 clear Hr Hg Hb
 go_enter Tryz.func170, Tryz.ntmps170
 go_upto_region 2 with (go_at_call 195; refine (HR.out _).mono ?_; rintro e w1 ⟨rfl, rfl⟩)
 go_upto_region 3 with (go_at_call 195; refine (HG.out _).mono ?_; rintro e w1 ⟨rfl, rfl⟩)
 go_upto_region 4 with (go_at_call 195; refine (HB.out _).mono ?_; rintro e w1 ⟨rfl, rfl⟩)
 cases br with
 | false =>
  go_wp2_with fail
  exact bodyPost_ret (v := .tuple #[.string ⟨#[]⟩, .bool false]) (by simp [results, Tryz.results170, go_sem]) rfl ⟨(Below.refl _ _).alloc (Nat.le_refl _) _, .inl rfl⟩
 | true =>
  cases bg with
  | false =>
   go_wp2_with fail
   exact bodyPost_ret (v := .tuple #[.string ⟨#[]⟩, .bool false]) (by simp [results, Tryz.results170, go_sem]) rfl ⟨(Below.refl _ _).alloc (Nat.le_refl _) _, .inl rfl⟩
  | true =>
   cases bb with
   | false =>
    go_wp2_with fail
    exact bodyPost_ret (v := .tuple #[.string ⟨#[]⟩, .bool false]) (by simp [results, Tryz.results170, go_sem]) rfl ⟨(Below.refl _ _).alloc (Nat.le_refl _) _, .inl rfl⟩
   | true =>
    cases hi with
    | false =>
     go_upto_region 9 with fail
     generalize bits .or .i64 (bits .or .i64 ((nr : Int) * 1024) ((ng : Int) * 32)) (nb : Int) = W
     obtain ⟨x, hx⟩ : ∃ x : UInt8, W % 256 = (x.toNat : Int) := u8_of (by omega) (by omega)
     obtain ⟨y, hy⟩ : ∃ y : UInt8, W / 256 % 256 = (y.toNat : Int) := u8_of (by omega) (by omega)
     have hcv : (convert 22 9 (.slice (some ⟨w.heap.size + 1, 0, none⟩) 2 2)).run Tryz.prog ((w.alloc (.cells #[.int .u8 (r : Int), .int .u8 (g : Int), .int .u8 (b : Int), .int .u8 (a : Int)] 68)).alloc (.cells #[.int .u8 (x.toNat : Int), .int .u8 (y.toNat : Int)] 5)) = .ok (.string (strOf [x, y])) ((w.alloc (.cells #[.int .u8 (r : Int), .int .u8 (g : Int), .int .u8 (b : Int), .int .u8 (a : Int)] 68)).alloc (.cells #[.int .u8 (x.toNat : Int), .int .u8 (y.toNat : Int)] 5)) := convMade (by simp) [x, y]
     go_wp2_with fail
     exact bodyPost_ret (v := .tuple #[.string (strOf [x, y]), .bool true]) (by simp [results, Tryz.results170, go_sem]) rfl ⟨((Below.refl _ _).alloc (Nat.le_refl _) _).alloc (by simp) _, .inr ⟨x, y, rfl⟩⟩
    | true =>
     go_upto_region 9 with fail
     generalize bits .or .i64 (bits .or .i64 (bits .or .i64 ((nr : Int) * 1024) ((ng : Int) * 32)) (nb : Int)) 32768 = W
     obtain ⟨x, hx⟩ : ∃ x : UInt8, W % 256 = (x.toNat : Int) := u8_of (by omega) (by omega)
     obtain ⟨y, hy⟩ : ∃ y : UInt8, W / 256 % 256 = (y.toNat : Int) := u8_of (by omega) (by omega)
     have hcv : (convert 22 9 (.slice (some ⟨w.heap.size + 1, 0, none⟩) 2 2)).run Tryz.prog ((w.alloc (.cells #[.int .u8 (r : Int), .int .u8 (g : Int), .int .u8 (b : Int), .int .u8 (a : Int)] 68)).alloc (.cells #[.int .u8 (x.toNat : Int), .int .u8 (y.toNat : Int)] 5)) = .ok (.string (strOf [x, y])) ((w.alloc (.cells #[.int .u8 (r : Int), .int .u8 (g : Int), .int .u8 (b : Int), .int .u8 (a : Int)] 68)).alloc (.cells #[.int .u8 (x.toNat : Int), .int .u8 (y.toNat : Int)] 5)) := convMade (by simp) [x, y]
     go_wp2_with fail
     exact bodyPost_ret (v := .tuple #[.string (strOf [x, y]), .bool true]) (by simp [results, Tryz.results170, go_sem]) rfl ⟨((Below.refl _ _).alloc (Nat.le_refl _) _).alloc (by simp) _, .inr ⟨x, y, rfl⟩⟩
end Go.Proofs.YtlehkgkomjojmaaGreat
