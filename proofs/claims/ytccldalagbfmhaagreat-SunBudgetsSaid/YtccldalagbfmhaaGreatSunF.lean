/- sun: a number's colour; a pixel of three bytes or four; the bytes that fill a row up. sun: a pixel of three bytes or four. sun: the bytes that fill a row up. sun: what holds while a row is read. -/
import Derived.Test.YtccldalagbfmhaaGreatSunC
import Derived.Test.YtccldalagbfmhaaGreatStride
import Derived.Test.YtccldalagbfmhaaGreatPal1
import Derived.Deep.RegionHeld3
namespace Go.Proofs.YtccldalagbfmhaaGreat
open Go.RowKit
set_option linter.unusedVariables false
set_option linter.unusedSimpArgs false

/-- the box of a colour that is not told yet -/
def CB0 (w : World) (b : Nat) : Prop := Blk w b 131 #[.int .u8 0, .int .u8 0, .int .u8 0, .int .u8 0]
theorem CB0.all {w : World} {b : Nat} (h : CB0 w b) : w.cell? ⟨b, 0, none⟩ = some (.int .u8 0) ∧ w.cell? ⟨b, 1, none⟩ = some (.int .u8 0) ∧ w.cell? ⟨b, 2, none⟩ = some (.int .u8 0) ∧ w.cell? ⟨b, 3, none⟩ = some (.int .u8 0) ∧ w.frozen? ⟨b, 0, none⟩ = false ∧ w.frozen? ⟨b, 1, none⟩ = false ∧ w.frozen? ⟨b, 2, none⟩ = false ∧ w.frozen? ⟨b, 3, none⟩ = false ∧ b < w.heap.size :=
  ⟨Blk.cell h 0, Blk.cell h 1, Blk.cell h 2, Blk.cell h 3, Blk.frozen h 0, Blk.frozen h 1, Blk.frozen h 2, Blk.frozen h 3, Blk.lt h⟩
def colV0 : Value := .agg #[.int .u8 0, .int .u8 0, .int .u8 0, .int .u8 0]
def sv4 (w : World) (b : Nat) (u0 u1 u2 u3 : Value) : World := (((w.setCell ⟨b, 0, none⟩ u0).setCell ⟨b, 1, none⟩ u1).setCell ⟨b, 2, none⟩ u2).setCell ⟨b, 3, none⟩ u3
section
variable {w a : World} {g b B : Nat} {t : TypeId} {cs : Array Value} {u0 u1 u2 u3 : Value} {S : List Nat}
theorem Blk.sv4 (h : Blk w g t cs) (hb : g ≠ b) : Blk (sv4 w b u0 u1 u2 u3) g t cs := Blk.far (Blk.far (Blk.far (Blk.far h (p := ⟨b, 0, none⟩) hb _) (p := ⟨b, 1, none⟩) hb _) (p := ⟨b, 2, none⟩) hb _) (p := ⟨b, 3, none⟩) hb _
theorem Below.sv4 (h : Below B a w) (hb : B ≤ b) : Below B a (sv4 w b u0 u1 u2 u3) := below_set (below_set (below_set (below_set h hb) hb) hb) hb
theorem Turn.sv4 (h : Turn S a w) (hb : b ∈ S ∨ a.heap.size ≤ b) : Turn S a (sv4 w b u0 u1 u2 u3) := (((h.set_ 0 u0 hb).set_ 1 u1 hb).set_ 2 u2 hb).set_ 3 u3 hb
end
theorem Below.al {w w' : World} (h : Below w.heap.size w w') (o : Obj) : Below w.heap.size w (w'.alloc o) := h.alloc h.size o
/-- the colours of a map -/
def sunPal (s : ByteArray) (h : SunHd) : List Qc := (List.range h.n).map fun v => ⟨b8 s (32 + v), b8 s (32 + h.n + v), b8 s (32 + 2 * h.n + v), 255⟩
def MapAt (w : World) (g : Nat) (s : ByteArray) (h : SunHd) (lv : Value) (nd : Nat × Nat) : Prop := (h.n = 0 ∧ lv = .pointer none) ∨ (0 < h.n ∧ h.n ≤ 256 ∧ ∃ l b d, lv = .pointer (some ⟨l, 0, none⟩) ∧ PalHas w l b g d h.n (sunPal s h) ∧ d ≠ nd.2 ∧ b ≠ nd.1)
def EntPost (w w' : World) (s : ByteArray) (h : SunHd) (v q : Nat) (e : Ending) : Prop := Below w.heap.size w w' ∧ match sunEnt s h v with
  | some c => e = .returned (.tuple #[c.v, flt0])
  | none => e = .returned (.tuple #[colV0, fltV 2 q])
theorem gray_val {n : Nat} (hn : n < 256) : (qgray n).v = .agg #[.int .u8 (n : Int), .int .u8 (n : Int), .int .u8 (n : Int), .int .u8 255] := by
  unfold qgray Qc.v
  have e := ofNat8 hn
  simp only [e]
  rfl
set_option maxRecDepth 100000 in
theorem sunEntry_gray {w : World} {p g x fn v q : Nat} {s : ByteArray} {h : SunHd} {lv : Value} {t : SunSt} (X0 : SunX w p x h lv fn t) (hn : h.n = 0) (hlv : lv = .pointer none) (hv : v < 256) (hb1 : h.bits = 1 → v ≤ 1) (hb : h.bits ≤ 32) :
    Calls Tryz.prog 193 #[.pointer (some ⟨x, 0, none⟩), .int .i64 (v : Int), .int .i64 (q : Int)] w fun e w' => EntPost w w' s h v q e := by
  subst hlv
  have F1 : FB ((w.alloc (.cells #[.int .u8 0, .int .u8 0, .int .u8 0, .int .u8 0] 131)).alloc (.cells #[.int .i64 0, .int .i64 0, .int .i64 0] 31)) (w.heap.size + 1) 0 0 0 := Blk.new_at _ _ _ (by simp)
  have C1 : CB0 ((w.alloc (.cells #[.int .u8 0, .int .u8 0, .int .u8 0, .int .u8 0] 131)).alloc (.cells #[.int .i64 0, .int .i64 0, .int .i64 0] 31)) w.heap.size := Blk.alloc (Blk.new _ _ _) _
  have X1 : SunX ((w.alloc (.cells #[.int .u8 0, .int .u8 0, .int .u8 0, .int .u8 0] 131)).alloc (.cells #[.int .i64 0, .int .i64 0, .int .i64 0] 31)) p x h (.pointer none) fn t := Blk.alloc (Blk.alloc X0 _) _
  have B1 : Below w.heap.size w ((w.alloc (.cells #[.int .u8 0, .int .u8 0, .int .u8 0, .int .u8 0] 131)).alloc (.cells #[.int .i64 0, .int .i64 0, .int .i64 0] 31)) := ((Below.refl _ _).alloc (Nat.le_refl _) _).alloc (by simp) _
  have hqf : w.heap.size ≠ w.heap.size + 1 := by omega
  have hfq := hqf.symm
  have hq : w.heap.size ≤ w.heap.size := Nat.le_refl _
  have hf : w.heap.size ≤ w.heap.size + 1 := by omega
  by_cases h1 : h.bits = 1
  · have e : ∀ e' w', Below w.heap.size w w' → e' = .returned (.tuple #[.agg #[.int .u8 ((255 * (1 - v) : Nat) : Int), .int .u8 ((255 * (1 - v) : Nat) : Int), .int .u8 ((255 * (1 - v) : Nat) : Int), .int .u8 255], flt0]) → EntPost w w' s h v q e' := fun e' w' b he => by
      unfold EntPost sunEnt
      rw [if_pos hn, if_pos h1]
      exact ⟨b, by rw [he]; simp only [gray_val (n := 255 * (1 - v)) (by omega)]⟩
    have E := Lib.hid e
    have b1I : (h.bits : Int) = 1 := by omega
    have hv1 : (v : Int) ≤ 1 := by have := hb1 h1; omega
    have hvI : (v : Int) < 256 := by omega
    obtain ⟨n, hnn⟩ : ∃ n, 255 * (1 - v) = n := ⟨_, rfl⟩
    have hv0 : v ≤ 1 := hb1 h1
    have w8 : IntKind.u8.wrap (255 * (1 - (v : Int))) = (n : Int) := by rw [IntKind.wrap_u8]; omega
    have w9 : IntKind.u8.wrap (v : Int) = (v : Int) := by rw [IntKind.wrap_u8]; omega
    rw [hnn] at E
    clear e hb1 h1 hn hnn hv0
    obtain ⟨x0, x1, x3, x4, x6, x7, x8, x9, x10, xl⟩ := SunX.all X1
    obtain ⟨f0, f1, f2', z0, z1, z2, fl⟩ := FB.all F1
    obtain ⟨d0, d1, d2, d3, y0, y1, y2, y3, dl⟩ := CB0.all C1
    have HB := Lib.hid B1
    clear F1 C1 X1 B1 X0
    go_enter Tryz.func193, Tryz.ntmps193
    go_wp2_with fail
    exact bodyPost_ret (v := .tuple #[.agg #[.int .u8 (n : Int), .int .u8 (n : Int), .int .u8 (n : Int), .int .u8 255], flt0]) (by simp [results, Tryz.results193, go_sem, f0, f1, f2', d0, d1, d2, d3, hqf, hfq, fltV, flt0, colV0]) rfl (E.out _ _ (((Below.refl _ _).alloc (Nat.le_refl _) _).alloc (by simp) _) rfl)
  · have e : ∀ e' w', Below w.heap.size w w' → e' = .returned (.tuple #[.agg #[.int .u8 (v : Int), .int .u8 (v : Int), .int .u8 (v : Int), .int .u8 255], flt0]) → EntPost w w' s h v q e' := fun e' w' b he => by
      unfold EntPost sunEnt
      rw [if_pos hn, if_neg h1]
      exact ⟨b, by rw [he]; simp only [gray_val hv]⟩
    have E := Lib.hid e
    have b1I : ¬ (h.bits : Int) = 1 := by omega
    have hvI : (v : Int) < 256 := by omega
    have w9 : IntKind.u8.wrap (v : Int) = (v : Int) := by rw [IntKind.wrap_u8]; omega
    clear e hb1 h1 hn
    obtain ⟨x0, x1, x3, x4, x6, x7, x8, x9, x10, xl⟩ := SunX.all X1
    obtain ⟨f0, f1, f2', z0, z1, z2, fl⟩ := FB.all F1
    obtain ⟨d0, d1, d2, d3, y0, y1, y2, y3, dl⟩ := CB0.all C1
    have HB := Lib.hid B1
    clear F1 C1 X1 B1 X0
    go_enter Tryz.func193, Tryz.ntmps193
    go_wp2_with fail
    exact bodyPost_ret (v := .tuple #[.agg #[.int .u8 (v : Int), .int .u8 (v : Int), .int .u8 (v : Int), .int .u8 255], flt0]) (by simp [results, Tryz.results193, go_sem, f0, f1, f2', d0, d1, d2, d3, hqf, hfq, fltV, flt0, colV0]) rfl (E.out _ _ (((Below.refl _ _).alloc (Nat.le_refl _) _).alloc (by simp) _) rfl)
theorem sunPal_at {s : ByteArray} {h : SunHd} {v : Nat} (hv : v < h.n) : (sunPal s h)[v]? = some ⟨b8 s (32 + v), b8 s (32 + h.n + v), b8 s (32 + 2 * h.n + v), 255⟩ := by
  unfold sunPal
  rw [List.getElem?_map, List.getElem?_range hv]
  rfl
theorem sunPal_len (s : ByteArray) (h : SunHd) : (sunPal s h).length = h.n := by simp [sunPal]
set_option maxRecDepth 100000 in
theorem sunEntry_map {w : World} {p g x fn v q l b d : Nat} {s : ByteArray} {h : SunHd} {lv : Value} {t : SunSt} (X0 : SunX w p x h lv fn t) (hn : 0 < h.n) (hn2 : h.n ≤ 256) (hlv : lv = .pointer (some ⟨l, 0, none⟩)) (M0 : PalHas w l b g d h.n (sunPal s h)) (hv : v < 256) :
    Calls Tryz.prog 193 #[.pointer (some ⟨x, 0, none⟩), .int .i64 (v : Int), .int .i64 (q : Int)] w fun e w' => EntPost w w' s h v q e := by
  subst hlv
  have F1 : FB ((w.alloc (.cells #[.int .u8 0, .int .u8 0, .int .u8 0, .int .u8 0] 131)).alloc (.cells #[.int .i64 0, .int .i64 0, .int .i64 0] 31)) (w.heap.size + 1) 0 0 0 := Blk.new_at _ _ _ (by simp)
  have C1 : CB0 ((w.alloc (.cells #[.int .u8 0, .int .u8 0, .int .u8 0, .int .u8 0] 131)).alloc (.cells #[.int .i64 0, .int .i64 0, .int .i64 0] 31)) w.heap.size := Blk.alloc (Blk.new _ _ _) _
  have X1 : SunX ((w.alloc (.cells #[.int .u8 0, .int .u8 0, .int .u8 0, .int .u8 0] 131)).alloc (.cells #[.int .i64 0, .int .i64 0, .int .i64 0] 31)) p x h (.pointer (some ⟨l, 0, none⟩)) fn t := Blk.alloc (Blk.alloc X0 _) _
  have B1 : Below w.heap.size w ((w.alloc (.cells #[.int .u8 0, .int .u8 0, .int .u8 0, .int .u8 0] 131)).alloc (.cells #[.int .i64 0, .int .i64 0, .int .i64 0] 31)) := ((Below.refl _ _).alloc (Nat.le_refl _) _).alloc (by simp) _
  have hqf : w.heap.size ≠ w.heap.size + 1 := by omega
  have hfq := hqf.symm
  have hq : w.heap.size ≤ w.heap.size := Nat.le_refl _
  have hf : w.heap.size ≤ w.heap.size + 1 := by omega
  have M1 : PalHas ((w.alloc (.cells #[.int .u8 0, .int .u8 0, .int .u8 0, .int .u8 0] 131)).alloc (.cells #[.int .i64 0, .int .i64 0, .int .i64 0] 31)) l b g d h.n (sunPal s h) := M0.below B1
  by_cases hvn : v < h.n
  · obtain ⟨c, hc⟩ : ∃ c : Qc, c = ⟨b8 s (32 + v), b8 s (32 + h.n + v), b8 s (32 + 2 * h.n + v), 255⟩ := ⟨_, rfl⟩
    have e : ∀ e' w', Below w.heap.size w w' → e' = .returned (.tuple #[c.v, flt0]) → EntPost w w' s h v q e' := fun e' w' b he => by
      unfold EntPost sunEnt
      rw [if_neg (by omega), if_pos hvn, ← hc]
      exact ⟨b, he⟩
    have E := Lib.hid e
    have hq' : (sunPal s h)[v]? = some c := by rw [hc]; exact sunPal_at hvn
    have HO := Lib.hid (has_of M1 (by omega) hq')
    obtain ⟨x0, x1, x3, x4, x6, x7, x8, x9, x10, xl⟩ := SunX.all X1
    obtain ⟨f0, f1, f2', z0, z1, z2, fl⟩ := FB.all F1
    obtain ⟨d0, d1, d2, d3, y0, y1, y2, y3, dl⟩ := CB0.all C1
    have HB := Lib.hid B1
    have HF := Lib.hid F1
    have HC := Lib.hid C1
    clear F1 C1 X1 B1 X0 M1 M0 e hc hq'
    go_enter Tryz.func193, Tryz.ntmps193
    go_wp2_with (go_at_call 201; refine HO.out.mono ?_; rintro e w2 ⟨rfl, b2⟩; have F2 := FB.below HF.out b2; have C2 : CB0 w2 w.heap.size := Blk.below HC.out b2 (Blk.lt HC.out); have B2 := below_next HB.out b2; clear f0 f1 f2' z0 z1 z2 fl d0 d1 d2 d3 y0 y1 y2 y3 dl; obtain ⟨f0, f1, f2', z0, z1, z2, fl⟩ := FB.all F2; obtain ⟨d0, d1, d2, d3, y0, y1, y2, y3, dl⟩ := CB0.all C2)
    exact bodyPost_ret (v := .tuple #[c.v, flt0]) (by have := Nat.ne_of_lt fl; have := Nat.ne_of_lt dl; simp [results, Tryz.results193, go_sem, f0, f1, f2', d0, d1, d2, d3, hqf, hfq, fltV, flt0, colV0, Qc.v, *]) rfl (E.out _ _ (Below.al (below_set3 (Below.sv4 B2 hq) hf) _) rfl)
  · have e : ∀ e' w', Below w.heap.size w w' → e' = .returned (.tuple #[colV0, fltV 2 q]) → EntPost w w' s h v q e' := fun e' w' b he => by
      unfold EntPost sunEnt
      rw [if_neg (by omega), if_neg hvn]
      exact ⟨b, he⟩
    have E := Lib.hid e
    have HO := Lib.hid (palOf_no (i := (v : Int)) M1.1 (.inr (by rw [sunPal_len]; omega)))
    obtain ⟨x0, x1, x3, x4, x6, x7, x8, x9, x10, xl⟩ := SunX.all X1
    obtain ⟨f0, f1, f2', z0, z1, z2, fl⟩ := FB.all F1
    obtain ⟨d0, d1, d2, d3, y0, y1, y2, y3, dl⟩ := CB0.all C1
    have HB := Lib.hid B1
    have HF := Lib.hid F1
    have HC := Lib.hid C1
    clear F1 C1 X1 B1 X0 M1 M0 e
    go_enter Tryz.func193, Tryz.ntmps193
    go_wp2_with (first
      | (go_at_call 201; refine HO.out.mono ?_; rintro e w2 ⟨rfl, b2⟩; have F2 := (FB.below HF.out b2); have C2 : CB0 w2 w.heap.size := Blk.below HC.out b2 (Blk.lt HC.out); have B2 := below_next HB.out b2; clear f0 f1 f2' z0 z1 z2 fl d0 d1 d2 d3 y0 y1 y2 y3 dl)
      | (go_at_call 189; refine (sunBadC 2 _ _).mono ?_; rintro e w4 ⟨rfl, b4⟩; have F4 := FB.below (Blk.alloc F2 _) b4; have C4 : CB0 w4 w.heap.size := Blk.below (Blk.alloc C2 _) b4 (Nat.lt_of_lt_of_le (Blk.lt C2) (by simp)); have B4 := below_next (B2.alloc B2.size _) b4; obtain ⟨f0, f1, f2', z0, z1, z2, fl⟩ := FB.all F4; obtain ⟨d0, d1, d2, d3, y0, y1, y2, y3, dl⟩ := CB0.all C4))
    exact bodyPost_ret (v := .tuple #[colV0, fltV 2 q]) (by simp [results, Tryz.results193, go_sem, f0, f1, f2', d0, d1, d2, d3, hqf, hfq, fltV, flt0, colV0]) rfl (E.out _ _ (below_set3 (Below.sv4 B4 hq) hf) rfl)
theorem sunEntryC {w : World} {p g x fn v q : Nat} {nd : Nat × Nat} {s : ByteArray} {h : SunHd} {lv : Value} {t : SunSt} (X0 : SunX w p x h lv fn t) (M : MapAt w g s h lv nd) (hv : v < 256) (hb1 : h.bits = 1 → v ≤ 1) (hb : h.bits ≤ 32) :
    Calls Tryz.prog 193 #[.pointer (some ⟨x, 0, none⟩), .int .i64 (v : Int), .int .i64 (q : Int)] w fun e w' => EntPost w w' s h v q e := by
  rcases M with ⟨hn, hlv⟩ | ⟨h1, h2, l, b, d, hlv, M, _⟩
  · exact sunEntry_gray (g := g) X0 hn hlv hv hb1 hb
  · exact sunEntry_map X0 h1 h2 hlv M hv
end Go.Proofs.YtccldalagbfmhaaGreat
namespace Go.Proofs.YtccldalagbfmhaaGreat
open Go.RowKit
set_option linter.unusedVariables false
set_option linter.unusedSimpArgs false

/-- the bytes of a pixel that lack -/
def sunColM (s : ByteArray) (pk : Bool) (z : Nat) (h : SunHd) : Nat → List Nat → SunSt → (Qc → SunSt → Dec) → Dec
  | 0, bs, t, k => k (sunQ h (bs.getD 1 0) (bs.getD 2 0) (bs.getD 3 0)) t
  | m + 1, bs, t, k => sunNext s pk z t fun v _ t => sunColM s pk z h m (bs.set (3 - m) v) t k
theorem sunColor_m {s : ByteArray} {pk : Bool} {z : Nat} {h : SunHd} {t : SunSt} {k : Qc → SunSt → Dec} (hb : h.bits = 24 ∨ h.bits = 32) : sunColor s pk z h t k = sunColM s pk z h (h.bits / 8) [0, 0, 0, 0] t k := by
  unfold sunColor sunCol3
  rcases hb with hb | hb
  · rw [hb, if_neg (by decide)]
    rfl
  · rw [hb, if_pos rfl]
    rfl
def ColPost (w w' : World) (p g x : Nat) (s : ByteArray) (h : SunHd) (lv : Value) (fn : Nat) (pk : Bool) (z : Nat) (t : SunSt) (y : Led) (e : Ending) : Prop :=
  ∃ y', LedAt w' g y' ∧ y'.Ok ∧ y'.bytes = y.bytes ∧ Turn [p, g, x] w w' ∧
    ((∃ (kk aa : Nat) (tz : SunSt), kk ≠ 0 ∧ e = .returned (.tuple #[colV0, fltV kk aa]) ∧ SunX w' p x h lv fn tz ∧ ∀ k, (sunColor s pk z h t k).run y = ((y'.give (z : Int)).1, .bad kk aa)) ∨
     (∃ (c : Qc) (t' : SunSt), e = .returned (.tuple #[c.v, flt0]) ∧ t'.Ok s ∧ y'.reason = 0 ∧ SrcAt w' p g s 0 s.size t'.a ∧ SunX w' p x h lv fn t' ∧ ∀ k, (sunColor s pk z h t k).run y = (k c t').run y'))
def u8s (bs : List Nat) : Array Value := (bs.map fun b : Nat => Value.int .u8 (b : Int)).toArray
theorem u8s_set (bs : List Nat) (i v : Nat) : (u8s bs).setIfInBounds i (.int .u8 (v : Int)) = u8s (bs.set i v) := by
  unfold u8s
  rw [List.setIfInBounds_toArray, List.map_set]
theorem u8s_at {bs : List Nat} {i : Nat} (h : i < bs.length) : (u8s bs)[i]? = some (.int .u8 ((bs.getD i 0 : Nat) : Int)) := by
  unfold u8s
  simp [List.getElem?_toArray, List.getElem?_eq_getElem h, List.getD_eq_getElem?_getD]
theorem sz1 (w : World) (a : Obj) : (w.alloc a).heap.size = w.heap.size + 1 := by simp
theorem sz2 (w : World) (a b : Obj) : ((w.alloc a).alloc b).heap.size = w.heap.size + 1 + 1 := by simp
theorem set_getD_lt {bs : List Nat} {i v : Nat} (h : ∀ j, bs.getD j 0 < 256) (hv : v < 256) : ∀ j, (bs.set i v).getD j 0 < 256 := by
  intro j
  have hj := h j
  rw [List.getD_eq_getElem?_getD] at hj ⊢
  rw [List.getElem?_set]
  split
  · split
    · exact hv
    · decide
  · exact hj
/-- what holds between two bytes of a pixel -/
structure ColI (w0 w : World) (p g x q f ab : Nat) (s : ByteArray) (h : SunHd) (lv : Value) (fn : Nat) (t : SunSt) (bs : List Nat) (y0 y : Led) : Prop where
  S : SrcAt w p g s 0 s.size t.a
  L : LedAt w g y
  X : SunX w p x h lv fn t
  C : CB0 w q
  F : FB w f 0 0 0
  A : Blk w ab 274 (u8s bs)
  T : Turn [p, g, x] w0 w
  nq : w0.heap.size ≤ q
  nf : w0.heap.size ≤ f
  na : w0.heap.size ≤ ab
  qf : q ≠ f
  len : bs.length = 4
  lt : ∀ i, bs.getD i 0 < 256
  ok : t.Ok s
  yok : y.Ok
  yr : y.reason = 0
  yb : y.bytes = y0.bytes
theorem ColI.nin {w0 w : World} {p g x q f ab : Nat} {s : ByteArray} {h : SunHd} {lv : Value} {fn : Nat} {t : SunSt} {bs : List Nat} {y0 y : Led} (I : ColI w0 w p g x q f ab s h lv fn t bs y0 y) : q ∉ [p, g, x] ∧ f ∉ [p, g, x] ∧ ab ∉ [p, g, x] := by
  simp only [List.mem_cons, List.not_mem_nil, or_false, not_or]
  exact ⟨⟨Blk.ne_ I.C I.S (by decide), Blk.ne_ I.C I.L (by decide), Blk.ne_ I.C I.X (by decide)⟩, ⟨Blk.ne_ I.F I.S (by decide), Blk.ne_ I.F I.L (by decide), Blk.ne_ I.F I.X (by decide)⟩, ⟨Blk.ne_ I.A I.S (by decide), Blk.ne_ I.A I.L (by decide), Blk.ne_ I.A I.X (by decide)⟩⟩
set_option maxRecDepth 100000 in
set_option maxHeartbeats 2000000 in
theorem sunColorC {w : World} {p g x fn z : Nat} {pk : Bool} {s : ByteArray} {h : SunHd} {lv : Value} {t : SunSt} {y : Led} (N : IsNext s h lv fn pk z) (hb : h.bits = 24 ∨ h.bits = 32) (S0 : SrcAt w p g s 0 s.size t.a) (L0 : LedAt w g y) (X0 : SunX w p x h lv fn t) (tok : t.Ok s) (ok : y.Ok) (hr : y.reason = 0) :
    Calls Tryz.prog 192 #[.pointer (some ⟨x, 0, none⟩)] w fun e w' => ColPost w w' p g x s h lv fn pk z t y e := by
  obtain ⟨HE, HN⟩ := N
  have HN := Lib.hid HN
  have I0 : ColI w (((w.alloc (.cells #[.int .u8 0, .int .u8 0, .int .u8 0, .int .u8 0] 131)).alloc (.cells #[.int .i64 0, .int .i64 0, .int .i64 0] 31)).alloc (.cells #[.int .u8 0, .int .u8 0, .int .u8 0, .int .u8 0] 274)) p g x w.heap.size (w.heap.size + 1) (w.heap.size + 1 + 1) s h lv fn t [0, 0, 0, 0] y y :=
    ⟨Blk.alloc (Blk.alloc (Blk.alloc S0 _) _) _, Blk.alloc (Blk.alloc (Blk.alloc L0 _) _) _, Blk.alloc (Blk.alloc (Blk.alloc X0 _) _) _, Blk.alloc (Blk.alloc (Blk.new _ _ _) _) _, Blk.alloc (Blk.new_at _ _ _ (sz1 _ _).symm) _, (Blk.new_at _ _ _ (sz2 _ _ _).symm), (((Turn.refl _ _).alloc _).alloc _).alloc _, Nat.le_refl _, by omega, by omega, by omega, rfl, fun i => by
      rcases (by omega : i = 0 ∨ i = 1 ∨ i = 2 ∨ i = 3 ∨ 4 ≤ i) with rfl | rfl | rfl | rfl | hi
      all_goals first | decide | (rw [List.getD_eq_getElem?_getD, List.getElem?_eq_none (by simpa using hi)]; decide), tok, ok, hr, rfl⟩
  obtain ⟨m, hm⟩ : ∃ m, h.bits / 8 = m := ⟨_, rfl⟩
  have hm3 : m = 3 ∨ m = 4 := by rcases hb with h | h <;> rw [h] at hm <;> omega
  have HRUN0 : ∀ k, (sunColor s pk z h t k).run y = (sunColM s pk z h m [0, 0, 0, 0] t k).run y := fun k => by rw [sunColor_m hb, hm]
  have e1 : (h.bits : Int) / 8 = (m : Int) := by omega
  have e2 : (4 : Int) - (m : Int) = ((4 - m : Nat) : Int) := by omega
  have hmI : (m : Int) ≤ 4 := by omega
  obtain ⟨x0, x1, x3, x4, x6, x7, x8, x9, x10, xl⟩ := SunX.all I0.X
  generalize hws : ((w.alloc (.cells #[.int .u8 0, .int .u8 0, .int .u8 0, .int .u8 0] 131)).alloc (.cells #[.int .i64 0, .int .i64 0, .int .i64 0] 31)).alloc (.cells #[.int .u8 0, .int .u8 0, .int .u8 0, .int .u8 0] 274) = ws at I0 x0 x1 x3 x4 x6 x7 x8 x9 x10 xl
  have HWS := Lib.hid hws
  have HI := Lib.hid I0
  have HR := Lib.hid HRUN0
  clear S0 L0 X0 tok ok hr I0 HRUN0 hws hm
  go_enter Tryz.func192, Tryz.ntmps192
  go_upto_region 2 with fail
  rw [HWS.out]
  generalize hq : w.heap.size + 1 = f at HI ⊢
  generalize hq2 : f + 1 = ab at HI ⊢
  clear hq hq2
  go_wp2_with fail
  go_loopg [5] m (fun gh v wr => ∃ (i gk : Nat) (bs : List Nat) (t' : SunSt) (y' : Led), gk = gh ∧ i + gk = 4 ∧ v = .int .i64 (i : Int) ∧ Hid (ColI w wr p g x w.heap.size f ab s h lv fn t' bs y y' ∧ ∀ k, (sunColor s pk z h t k).run y = (sunColM s pk z h gk bs t' k).run y'))
  case atStart => exact ⟨4 - m, m, [0, 0, 0, 0], t, y, rfl, by omega, by rw [← e2], Lib.hid ⟨HI.out, HR.out⟩⟩
  case round =>
    obtain ⟨i, gk, bs, t', y', rfl, hi, rfl, hP⟩ := hrel
    obtain ⟨I, hrun⟩ := hP.out
    clear HI HR hP x0 x1 x3 x4 x6 x7 x8 x9 x10 xl
    obtain ⟨x0, x1, x3, x4, x6, x7, x8, x9, x10, xl⟩ := SunX.all I.X
    have HI := Lib.hid I
    have HRUN := Lib.hid hrun
    have hqf : w.heap.size ≠ f := I.qf
    have hfq := hqf.symm
    clear I hrun
    by_cases hi4 : i < 4
    · have hiI : (i : Int) < 4 := by omega
      obtain ⟨gm, rfl⟩ : ∃ gm, gk = gm + 1 := ⟨gk - 1, by omega⟩
      have h3 : 3 - gm = i := by omega
      go_wp2_with fail
      refine (HN.out _ _ _ _ _ _ HI.out.S HI.out.L HI.out.X HI.out.ok HI.out.yok HI.out.yr).mono ?_
      rintro e w2 ⟨y2, l2, ok2, b2, tn, hor⟩
      obtain ⟨nq, nf, na⟩ := HI.out.nin
      have C2 : CB0 w2 w.heap.size := Blk.turn HI.out.C tn nq
      have F2 : FB w2 f 0 0 0 := Blk.turn HI.out.F tn nf
      have A2 : Blk w2 ab 274 (u8s bs) := Blk.turn HI.out.A tn na
      have T2 := Lib.hid (HI.out.T.trans tn)
      simp only [fltV, flt0] at hor
      rcases hor with ⟨kk, aa, u, v, tz, hk, rfl, Xz, hno⟩ | ⟨v, q, t2, rfl, hv, hq, t2ok, yr2, s2, X2, hyes⟩
      · have hkI : ¬ (kk : Int) = 0 := by omega
        have hfl := Blk.lt F2
        have hql := Blk.lt C2
        go_upto_region 7 with fail
        have C3 : CB0 (w2.alloc (.cells #[.int .i64 (kk : Int), .int .i64 8, .int .i64 (aa : Int)] 31)) w.heap.size := Blk.alloc C2 _
        have F3 : FB (w2.alloc (.cells #[.int .i64 (kk : Int), .int .i64 8, .int .i64 (aa : Int)] 31)) f 0 0 0 := Blk.alloc F2 _
        have G3 : FB (w2.alloc (.cells #[.int .i64 (kk : Int), .int .i64 8, .int .i64 (aa : Int)] 31)) w2.heap.size (kk : Int) 8 (aa : Int) := Blk.new _ _ _
        have L3 : LedAt (w2.alloc (.cells #[.int .i64 (kk : Int), .int .i64 8, .int .i64 (aa : Int)] 31)) g y2 := Blk.alloc l2 _
        have T3 : Turn [p, g, x] w (w2.alloc (.cells #[.int .i64 (kk : Int), .int .i64 8, .int .i64 (aa : Int)] 31)) := T2.out.alloc _
        have X3 : SunX (w2.alloc (.cells #[.int .i64 (kk : Int), .int .i64 8, .int .i64 (aa : Int)] 31)) p x h lv fn tz := Blk.alloc Xz _
        have hgq : g ≠ w.heap.size := Blk.ne_ L3 C3 (by decide)
        have hxq : x ≠ w.heap.size := Blk.ne_ X3 C3 (by decide)
        have hxf : x ≠ f := Blk.ne_ X3 F3 (by decide)
        have hgf : g ≠ f := Blk.ne_ L3 F3 (by decide)
        generalize w2.alloc (.cells #[.int .i64 (kk : Int), .int .i64 8, .int .i64 (aa : Int)] 31) = w3 at C3 F3 G3 L3 T3 X3 ⊢
        have n1 : w.heap.size ≠ w2.heap.size := Nat.ne_of_lt hql
        have n2 : f ≠ w2.heap.size := Nat.ne_of_lt hfl
        generalize w2.heap.size = b8' at G3 n1 n2 ⊢
        have n3 := n1.symm
        have n4 := n2.symm
        have HD := Lib.hid (And.intro L3 (And.intro T3 X3))
        obtain ⟨f0, f1, f2', z0, z1, z2, fl⟩ := FB.all F3
        obtain ⟨d0, d1, d2, d3, y0', y1, y2', y3, dl⟩ := CB0.all C3
        obtain ⟨g0, g1, g2, o0, o1, o2, gl⟩ := FB.all G3
        clear C2 F2 A2 C3 F3 G3 L3 T3 X3 Xz tn l2 x0 x1 x3 x4 x6 x7 x8 x9 x10 xl hfl hql
        go_region
        go_wp2_with fail
        exact bodyPost_ret (v := .tuple #[colV0, fltV kk aa]) (by simp [results, Tryz.results192, go_sem, f0, f1, f2', d0, d1, d2, d3, hqf, hfq, fltV, colV0]) rfl ⟨y2, (Blk.st3 (Blk.sv4 HD.out.1 hgq) hgf).drew, ok2, b2.trans HI.out.yb, (Turn.st3 (Turn.sv4 HD.out.2.1 (.inr HI.out.nq)) (.inr HI.out.nf)).drew, .inl ⟨kk, aa, tz, hk, rfl, (Blk.st3 (Blk.sv4 HD.out.2.2 hxq) hxf).drew, fun k => by rw [HRUN.out k]; exact hno _⟩⟩
      · have hvI : (v : Int) < 256 := by omega
        have w8 : IntKind.u8.wrap (v : Int) = (v : Int) := by rw [IntKind.wrap_u8]; omega
        have a0 := (Blk.cell A2 i).trans (u8s_at (by rw [HI.out.len]; exact hi4))
        have az := Blk.frozen A2 i
        have al := Blk.lt A2
        have HA := Lib.hid A2
        have HC := Lib.hid C2
        have HF := Lib.hid F2
        have HX := Lib.hid X2
        have HS := Lib.hid s2
        have HL := Lib.hid l2
        clear C2 F2 A2 X2 s2 l2 tn x0 x1 x3 x4 x6 x7 x8 x9 x10 xl
        go_wp2_with fail
        go_roundg gm
        case measure => omega
        case rel =>
          have hpa : p ≠ ab := Blk.ne_ HS.out HA.out (by decide)
          have hga : g ≠ ab := Blk.ne_ HL.out HA.out (by decide)
          have hxa : x ≠ ab := Blk.ne_ HX.out HA.out (by decide)
          have hqa : w.heap.size ≠ ab := Blk.ne_ HC.out HA.out (by decide)
          have hfa : f ≠ ab := Blk.ne_ HF.out HA.out (by decide)
          exact ⟨i + 1, gm, bs.set i v, t2, y2, rfl, by omega, by go_num, Lib.hid ⟨⟨Blk.alloc (Blk.far HS.out (p := ⟨ab, i, none⟩) hpa _) _, Blk.alloc (Blk.far HL.out (p := ⟨ab, i, none⟩) hga _) _, Blk.alloc (Blk.far HX.out (p := ⟨ab, i, none⟩) hxa _) _, Blk.alloc (Blk.far HC.out (p := ⟨ab, i, none⟩) hqa _) _, Blk.alloc (Blk.far HF.out (p := ⟨ab, i, none⟩) hfa _) _, Blk.alloc ((Blk.set_ HA.out i _).eq_ (u8s_set bs i v)) _, (T2.out.set_ i _ (.inr HI.out.na)).alloc _, HI.out.nq, HI.out.nf, HI.out.na, HI.out.qf, by rw [List.length_set, HI.out.len], set_getD_lt HI.out.lt hv, t2ok, ok2, yr2, b2.trans HI.out.yb⟩, fun k => by
            rw [HRUN.out k, ← h3]
            exact hyes _⟩⟩
    · obtain rfl : i = 4 := by omega
      obtain rfl : gk = 0 := by omega
      have HRUN2 : Hid (∀ k, (sunColor s pk z h t k).run y = (k (sunQ h (bs.getD 1 0) (bs.getD 2 0) (bs.getD 3 0)) t').run y') := Lib.hid (fun k => HRUN.out k)
      have l1 := HI.out.lt 1
      have l2 := HI.out.lt 2
      have l3 := HI.out.lt 3
      have a1 := (Blk.cell HI.out.A 1).trans (u8s_at (by rw [HI.out.len]; decide))
      have a2 := (Blk.cell HI.out.A 2).trans (u8s_at (by rw [HI.out.len]; decide))
      have a3 := (Blk.cell HI.out.A 3).trans (u8s_at (by rw [HI.out.len]; decide))
      have hgq : g ≠ w.heap.size := Blk.ne_ HI.out.L HI.out.C (by decide)
      have hgf : g ≠ f := Blk.ne_ HI.out.L HI.out.F (by decide)
      have hpq : p ≠ w.heap.size := Blk.ne_ HI.out.S HI.out.C (by decide)
      have hpf : p ≠ f := Blk.ne_ HI.out.S HI.out.F (by decide)
      have hxq : x ≠ w.heap.size := Blk.ne_ HI.out.X HI.out.C (by decide)
      have hxf : x ≠ f := Blk.ne_ HI.out.X HI.out.F (by decide)
      have haq : ab ≠ w.heap.size := Blk.ne_ HI.out.A HI.out.C (by decide)
      have haf : ab ≠ f := Blk.ne_ HI.out.A HI.out.F (by decide)
      have hqa := haq.symm
      have hfa := haf.symm
      obtain ⟨f0, f1, f2', z0, z1, z2, fl⟩ := FB.all HI.out.F
      obtain ⟨d0, d1, d2, d3, y0', y1, y2', y3, dl⟩ := CB0.all HI.out.C
      generalize bs.getD 1 0 = c1 at l1 a1 HRUN2
      generalize bs.getD 2 0 = c2 at l2 a2 HRUN2
      generalize bs.getD 3 0 = c3 at l3 a3 HRUN2
      by_cases ht : h.typ = 3
      · have htI : (h.typ : Int) = 3 := by omega
        have ev : (sunQ h c1 c2 c3).v = .agg #[.int .u8 (c1 : Int), .int .u8 (c2 : Int), .int .u8 (c3 : Int), .int .u8 255] := by
          unfold sunQ Qc.v
          rw [if_pos ht]
          simp only [ofNat8 l1, ofNat8 l2, ofNat8 l3]
          rfl
        have HEV := Lib.hid ev
        clear ev HRUN ht
        go_wp2_with fail
        exact bodyPost_ret (v := .tuple #[.agg #[.int .u8 (c1 : Int), .int .u8 (c2 : Int), .int .u8 (c3 : Int), .int .u8 255], flt0]) (by simp [results, Tryz.results192, go_sem, f0, f1, f2', d0, d1, d2, d3, hqf, hfq, flt0]) rfl ⟨y', Blk.st3 (Blk.sv4 HI.out.L hgq) hgf, HI.out.yok, HI.out.yb, Turn.st3 (Turn.sv4 HI.out.T (.inr HI.out.nq)) (.inr HI.out.nf), .inr ⟨sunQ h c1 c2 c3, t', by rw [HEV.out], HI.out.ok, HI.out.yr, Blk.st3 (Blk.sv4 HI.out.S hpq) hpf, Blk.st3 (Blk.sv4 HI.out.X hxq) hxf, HRUN2.out⟩⟩
      · have htI : ¬ (h.typ : Int) = 3 := by omega
        have ev : (sunQ h c1 c2 c3).v = .agg #[.int .u8 (c3 : Int), .int .u8 (c2 : Int), .int .u8 (c1 : Int), .int .u8 255] := by
          unfold sunQ Qc.v
          rw [if_neg ht]
          simp only [ofNat8 l1, ofNat8 l2, ofNat8 l3]
          rfl
        have HEV := Lib.hid ev
        clear ev HRUN ht
        go_wp2_with fail
        exact bodyPost_ret (v := .tuple #[.agg #[.int .u8 (c3 : Int), .int .u8 (c2 : Int), .int .u8 (c1 : Int), .int .u8 255], flt0]) (by simp [results, Tryz.results192, go_sem, f0, f1, f2', d0, d1, d2, d3, hqf, hfq, flt0]) rfl ⟨y', Blk.st3 (Blk.sv4 HI.out.L hgq) hgf, HI.out.yok, HI.out.yb, Turn.st3 (Turn.sv4 HI.out.T (.inr HI.out.nq)) (.inr HI.out.nf), .inr ⟨sunQ h c1 c2 c3, t', by rw [HEV.out], HI.out.ok, HI.out.yr, Blk.st3 (Blk.sv4 HI.out.S hpq) hpf, Blk.st3 (Blk.sv4 HI.out.X hxq) hxf, HRUN2.out⟩⟩
end Go.Proofs.YtccldalagbfmhaaGreat
namespace Go.Proofs.YtccldalagbfmhaaGreat
open Go.RowKit
set_option linter.unusedVariables false
set_option linter.unusedSimpArgs false

def FillPost (w w' : World) (p g x : Nat) (s : ByteArray) (h : SunHd) (lv : Value) (fn : Nat) (pk : Bool) (z n : Nat) (t : SunSt) (y : Led) (e : Ending) : Prop :=
  ∃ y', LedAt w' g y' ∧ y'.Ok ∧ y'.bytes = y.bytes ∧ Turn [p, g, x] w w' ∧
    ((∃ kk aa : Nat, kk ≠ 0 ∧ e = .returned (fltV kk aa) ∧ ∀ k, (sunFill s pk z n t k).run y = ((y'.give (z : Int)).1, .bad kk aa)) ∨
     (∃ t' : SunSt, e = .returned flt0 ∧ t'.Ok s ∧ y'.reason = 0 ∧ SrcAt w' p g s 0 s.size t'.a ∧ SunX w' p x h lv fn t' ∧ ∀ k, (sunFill s pk z n t k).run y = (k t').run y'))
/-- what holds between two bytes that fill up -/
structure FillI (w0 w : World) (p g x f : Nat) (s : ByteArray) (h : SunHd) (lv : Value) (fn : Nat) (t : SunSt) (y0 y : Led) : Prop where
  S : SrcAt w p g s 0 s.size t.a
  L : LedAt w g y
  X : SunX w p x h lv fn t
  F : FB w f 0 0 0
  T : Turn [p, g, x] w0 w
  nf : w0.heap.size ≤ f
  ok : t.Ok s
  yok : y.Ok
  yr : y.reason = 0
  yb : y.bytes = y0.bytes
section
variable {w0 w w' : World} {p g x f : Nat} {s : ByteArray} {h : SunHd} {lv : Value} {fn : Nat} {t : SunSt} {y0 y : Led}
theorem FillI.nin (I : FillI w0 w p g x f s h lv fn t y0 y) : f ∉ [p, g, x] := by
  simp only [List.mem_cons, List.not_mem_nil, or_false, not_or]
  exact ⟨Blk.ne_ I.F I.S (by decide), Blk.ne_ I.F I.L (by decide), Blk.ne_ I.F I.X (by decide)⟩
theorem FillI.below (I : FillI w0 w p g x f s h lv fn t y0 y) (k : Below w.heap.size w w') : FillI w0 w' p g x f s h lv fn t y0 y :=
  ⟨Blk.below I.S k (Blk.lt I.S), Blk.below I.L k (Blk.lt I.L), Blk.below I.X k (Blk.lt I.X), I.F.below k, I.T.trans (Turn.of_below k), I.nf, I.ok, I.yok, I.yr, I.yb⟩
theorem FillI.alloc (I : FillI w0 w p g x f s h lv fn t y0 y) (o : Obj) : FillI w0 (w.alloc o) p g x f s h lv fn t y0 y := I.below ((Below.refl _ _).alloc (Nat.le_refl _) _)
theorem FillI.drew (I : FillI w0 w p g x f s h lv fn t y0 y) : FillI w0 w.drew p g x f s h lv fn t y0 y := ⟨Blk.drew I.S, Blk.drew I.L, Blk.drew I.X, Blk.drew I.F, I.T.drew, I.nf, I.ok, I.yok, I.yr, I.yb⟩
end
set_option maxRecDepth 100000 in
set_option maxHeartbeats 2000000 in
theorem sunFillC {w : World} {p g x fn z : Nat} {pk : Bool} {s : ByteArray} {h : SunHd} {lv : Value} {t : SunSt} {y : Led} (N : IsNext s h lv fn pk z) (hh : h.Ok) (S0 : SrcAt w p g s 0 s.size t.a) (L0 : LedAt w g y) (X0 : SunX w p x h lv fn t) (tok : t.Ok s) (ok : y.Ok) (hr : y.reason = 0) :
    Calls Tryz.prog 194 #[.pointer (some ⟨x, 0, none⟩)] w fun e w' => FillPost w w' p g x s h lv fn pk z (sunFills h) t y e := by
  obtain ⟨HE, HN'⟩ := N
  have HN := Lib.hid HN'
  clear HN'
  have I0 : FillI w (w.alloc (.cells #[.int .i64 0, .int .i64 0, .int .i64 0] 31)) p g x w.heap.size s h lv fn t y y :=
    ⟨Blk.alloc S0 _, Blk.alloc L0 _, Blk.alloc X0 _, FB.new w, (Turn.refl _ _).alloc _, Nat.le_refl _, tok, ok, hr, rfl⟩
  have hd : 1 ≤ h.bits ∧ h.bits ≤ 32 := by have := hh.d; unfold SunDepth at this; omega
  have hw1 := hh.w1
  have hw2 := hh.w2
  obtain ⟨zz, hz⟩ : ∃ zz, h.W * h.bits = zz := ⟨_, rfl⟩
  have hzb : zz ≤ 524288 := by rw [← hz]; exact Nat.mul_le_mul hw2 hd.2
  obtain ⟨n, hn⟩ : ∃ n, sunFills h = n := ⟨_, rfl⟩
  obtain ⟨al, hal⟩ : ∃ al, (zz + 15) / 16 * 2 = al := ⟨_, rfl⟩
  obtain ⟨us, hus⟩ : ∃ us, (zz + 7) / 8 * 1 = us := ⟨_, rfl⟩
  have hnn : n = al - us := by rw [← hn]; unfold sunFills; rw [hz]; omega
  have hle : us ≤ al := by omega
  have HS1 := Lib.hid (fun w => numStride_16 (a := h.W) (p := h.bits) (z := zz) (y := al) hd.1 (by omega) (by omega) hz (by omega) hal w)
  have HS2 := Lib.hid (fun w => numStride_8 (a := h.W) (p := h.bits) (z := zz) (y := us) hd.1 (by omega) (by omega) hz (by omega) hus w)
  have esub : (al : Int) - (us : Int) = (n : Int) := by omega
  have halI : (al : Int) ≤ 1048576 := by omega
  rw [hn]
  generalize hws : w.alloc (.cells #[.int .i64 0, .int .i64 0, .int .i64 0] 31) = ws at I0
  have HWS := Lib.hid hws
  have HI := Lib.hid I0
  clear S0 L0 X0 tok ok hr I0 hws hz hn hal hus hnn hd hw1 hw2 hzb
  go_enter Tryz.func194, Tryz.ntmps194
  go_upto_region 1 with fail
  rw [HWS.out]
  obtain ⟨x0, x1, x3, x4, x6, x7, x8, x9, x10, xl⟩ := SunX.all HI.out.X
  refine wp_region_held_drew (S := (fun w' => w'.cell? ⟨x, 1, none⟩ = some (.int .i64 (h.W : Int)) ∧ w'.cell? ⟨x, 3, none⟩ = some (.int .i64 (h.bits : Int)))) (by kernel_rfl) ⟨x1, x3⟩ (fun hHeld => ?_)
  refine wpAnyH_take (i := 0) (v := ?_) rfl (by kernel_rfl) (by kernel_rfl) (by kernel_rfl) (fun _ _ _ h => h) (Or.inl ⟨by kernel_rfl, ?_⟩) (by assumption) ?_
  rotate_left
  · intro w hSw; (try dsimp only at hSw); go_simp; (try with_reducible rfl)
  (try simp only [Act.put, List.setIfInBounds_toArray, List.set_cons_zero, List.set_cons_succ])
  refine wpAnyH_take (i := 1) (v := ?_) rfl (by kernel_rfl) (by kernel_rfl) (by kernel_rfl) (fun _ _ _ h => h) (Or.inl ⟨by kernel_rfl, ?_⟩) (by assumption) ?_
  rotate_left
  · intro w hSw; (try dsimp only at hSw); go_simp; (try with_reducible rfl)
  (try simp only [Act.put, List.setIfInBounds_toArray, List.set_cons_zero, List.set_cons_succ])
  refine wpAnyH_take (i := 2) (v := ?_) rfl (by kernel_rfl) (by kernel_rfl) (by kernel_rfl) (fun _ _ _ h => h) (Or.inl ⟨by kernel_rfl, ?_⟩) (by assumption) ?_
  rotate_left
  · intro w hSw; (try dsimp only at hSw); go_simp; (try with_reducible rfl)
  (try simp only [Act.put, List.setIfInBounds_toArray, List.set_cons_zero, List.set_cons_succ])
  refine wpAnyH_take (i := 3) (v := ?_) rfl (by kernel_rfl) (by kernel_rfl) (by kernel_rfl) (fun _ _ _ h => h) (Or.inl ⟨by kernel_rfl, ?_⟩) (by assumption) ?_
  rotate_left
  · intro w hSw; (try dsimp only at hSw); go_simp; (try with_reducible rfl)
  (try simp only [Act.put, List.setIfInBounds_toArray, List.set_cons_zero, List.set_cons_succ])
  refine wpAnyH_take (i := 4) (v := ?_) rfl (by kernel_rfl) (by kernel_rfl) (by kernel_rfl) (fun _ _ _ h => h) (Or.inl ⟨by kernel_rfl, ?_⟩) (by assumption) ?_
  rotate_left
  · intro w hSw; (try dsimp only at hSw); go_simp; (try with_reducible rfl)
  (try simp only [Act.put, List.setIfInBounds_toArray, List.set_cons_zero, List.set_cons_succ])
  refine wpAnyH_take (i := 5) (v := ?_) rfl (by kernel_rfl) (by kernel_rfl) (by kernel_rfl) (fun _ _ _ h => h) (Or.inl ⟨by kernel_rfl, ?_⟩) (by assumption) ?_
  rotate_left
  · intro w hSw; (try dsimp only at hSw); go_simp; (try with_reducible rfl)
  (try simp only [Act.put, List.setIfInBounds_toArray, List.set_cons_zero, List.set_cons_succ])
  refine wpAnyH_take (i := 6) (v := ?_) rfl (by kernel_rfl) (by kernel_rfl) (by kernel_rfl) (fun _ _ _ h => h) (Or.inl ⟨by kernel_rfl, ?_⟩) (by assumption) ?_
  rotate_left
  · intro w hSw; (try dsimp only at hSw); go_simp; (try with_reducible rfl)
  (try simp only [Act.put, List.setIfInBounds_toArray, List.set_cons_zero, List.set_cons_succ])
  refine wpAnyH_take (i := 7) (v := ?_) rfl (by kernel_rfl) (by kernel_rfl) (by kernel_rfl) (fun _ _ _ h => h) (Or.inl ⟨by kernel_rfl, ?_⟩) (by assumption) ?_
  rotate_left
  · intro w hSw; (try dsimp only at hSw); go_simp; (try with_reducible rfl)
  (try simp only [Act.put, List.setIfInBounds_toArray, List.set_cons_zero, List.set_cons_succ])
  refine wpAnyH_take (i := 8) (v := ?_) rfl (by kernel_rfl) (by kernel_rfl) (by kernel_rfl) (fun _ _ _ h => h) (Or.inl ⟨by kernel_rfl, ?_⟩) (by assumption) ?_
  rotate_left
  · intro w hSw; (try dsimp only at hSw); go_simp; (try with_reducible rfl)
  (try simp only [Act.put, List.setIfInBounds_toArray, List.set_cons_zero, List.set_cons_succ])
  refine wpAnyH_take (i := 9) (v := ?_) rfl (by kernel_rfl) (by kernel_rfl) (by kernel_rfl) (fun _ _ _ h => h) (Or.inl ⟨by kernel_rfl, ?_⟩) (by assumption) ?_
  rotate_left
  · intro w hSw; (try dsimp only at hSw); go_simp; (try with_reducible rfl)
  (try simp only [Act.put, List.setIfInBounds_toArray, List.set_cons_zero, List.set_cons_succ])
  refine wpAnyH_ready (rs := [10]) (by kernel_rfl) (by simp) ?_
  refine AllReadyH.cons rfl (fun K hK => ?_) AllReadyH.nil
  go_simp
  refine (HS1.out _).mono ?_
  rintro e w2 ⟨rfl, b2⟩
  have I2 := HI.out.drew.below b2
  clear x0 x1 x3 x4 x6 x7 x8 x9 x10 xl
  obtain ⟨x0, x1, x3, x4, x6, x7, x8, x9, x10, xl⟩ := SunX.all I2.X
  refine hK.out _ _ ⟨x1, x3⟩ (fun hHeld' => ?_)
  clear hK K hHeld
  have hHeld := hHeld'
  clear hHeld'
  (try simp only [Act.put, List.setIfInBounds_toArray, List.set_cons_zero, List.set_cons_succ])
  refine wpAnyH_take (i := 11) (v := ?_) rfl (by kernel_rfl) (by kernel_rfl) (by kernel_rfl) (fun _ _ _ h => h) (Or.inl ⟨by kernel_rfl, ?_⟩) (by assumption) ?_
  rotate_left
  · intro w hSw; (try dsimp only at hSw); go_simp; (try with_reducible rfl)
  (try simp only [Act.put, List.setIfInBounds_toArray, List.set_cons_zero, List.set_cons_succ])
  refine wpAnyH_take (i := 12) (v := ?_) rfl (by kernel_rfl) (by kernel_rfl) (by kernel_rfl) (fun _ _ _ h => h) (Or.inl ⟨by kernel_rfl, ?_⟩) (by assumption) ?_
  rotate_left
  · intro w hSw; (try dsimp only at hSw); go_simp; (try with_reducible rfl)
  (try simp only [Act.put, List.setIfInBounds_toArray, List.set_cons_zero, List.set_cons_succ])
  refine wpAnyH_take (i := 13) (v := ?_) rfl (by kernel_rfl) (by kernel_rfl) (by kernel_rfl) (fun _ _ _ h => h) (Or.inl ⟨by kernel_rfl, ?_⟩) (by assumption) ?_
  rotate_left
  · intro w hSw; (try dsimp only at hSw); go_simp; (try with_reducible rfl)
  (try simp only [Act.put, List.setIfInBounds_toArray, List.set_cons_zero, List.set_cons_succ])
  refine wpAnyH_take (i := 14) (v := ?_) rfl (by kernel_rfl) (by kernel_rfl) (by kernel_rfl) (fun _ _ _ h => h) (Or.inl ⟨by kernel_rfl, ?_⟩) (by assumption) ?_
  rotate_left
  · intro w hSw; (try dsimp only at hSw); go_simp; (try with_reducible rfl)
  (try simp only [Act.put, List.setIfInBounds_toArray, List.set_cons_zero, List.set_cons_succ])
  refine wpAnyH_take (i := 15) (v := ?_) rfl (by kernel_rfl) (by kernel_rfl) (by kernel_rfl) (fun _ _ _ h => h) (Or.inl ⟨by kernel_rfl, ?_⟩) (by assumption) ?_
  rotate_left
  · intro w hSw; (try dsimp only at hSw); go_simp; (try with_reducible rfl)
  (try simp only [Act.put, List.setIfInBounds_toArray, List.set_cons_zero, List.set_cons_succ])
  refine wpAnyH_done (by kernel_rfl) ?_ _
  (try simp only [List.getElem_toArray, List.getElem_cons_succ, List.getElem_cons_zero, List.set_cons_zero, List.set_cons_succ])
  clear hHeld
  have HI2 := Lib.hid I2
  clear I2 b2 HI HWS
  go_upto_region 2 with fail
  refine wp_region_held_drew (S := (fun w' => w'.cell? ⟨x, 1, none⟩ = some (.int .i64 (h.W : Int)) ∧ w'.cell? ⟨x, 3, none⟩ = some (.int .i64 (h.bits : Int)))) (by kernel_rfl) ⟨x1, x3⟩ (fun hHeld => ?_)
  refine wpAnyH_take (i := 0) (v := ?_) rfl (by kernel_rfl) (by kernel_rfl) (by kernel_rfl) (fun _ _ _ h => h) (Or.inl ⟨by kernel_rfl, ?_⟩) (by assumption) ?_
  rotate_left
  · intro w hSw; (try dsimp only at hSw); go_simp; (try with_reducible rfl)
  (try simp only [Act.put, List.setIfInBounds_toArray, List.set_cons_zero, List.set_cons_succ])
  refine wpAnyH_take (i := 1) (v := ?_) rfl (by kernel_rfl) (by kernel_rfl) (by kernel_rfl) (fun _ _ _ h => h) (Or.inl ⟨by kernel_rfl, ?_⟩) (by assumption) ?_
  rotate_left
  · intro w hSw; (try dsimp only at hSw); go_simp; (try with_reducible rfl)
  (try simp only [Act.put, List.setIfInBounds_toArray, List.set_cons_zero, List.set_cons_succ])
  refine wpAnyH_take (i := 2) (v := ?_) rfl (by kernel_rfl) (by kernel_rfl) (by kernel_rfl) (fun _ _ _ h => h) (Or.inl ⟨by kernel_rfl, ?_⟩) (by assumption) ?_
  rotate_left
  · intro w hSw; (try dsimp only at hSw); go_simp; (try with_reducible rfl)
  (try simp only [Act.put, List.setIfInBounds_toArray, List.set_cons_zero, List.set_cons_succ])
  refine wpAnyH_take (i := 3) (v := ?_) rfl (by kernel_rfl) (by kernel_rfl) (by kernel_rfl) (fun _ _ _ h => h) (Or.inl ⟨by kernel_rfl, ?_⟩) (by assumption) ?_
  rotate_left
  · intro w hSw; (try dsimp only at hSw); go_simp; (try with_reducible rfl)
  (try simp only [Act.put, List.setIfInBounds_toArray, List.set_cons_zero, List.set_cons_succ])
  refine wpAnyH_take (i := 4) (v := ?_) rfl (by kernel_rfl) (by kernel_rfl) (by kernel_rfl) (fun _ _ _ h => h) (Or.inl ⟨by kernel_rfl, ?_⟩) (by assumption) ?_
  rotate_left
  · intro w hSw; (try dsimp only at hSw); go_simp; (try with_reducible rfl)
  (try simp only [Act.put, List.setIfInBounds_toArray, List.set_cons_zero, List.set_cons_succ])
  refine wpAnyH_take (i := 5) (v := ?_) rfl (by kernel_rfl) (by kernel_rfl) (by kernel_rfl) (fun _ _ _ h => h) (Or.inl ⟨by kernel_rfl, ?_⟩) (by assumption) ?_
  rotate_left
  · intro w hSw; (try dsimp only at hSw); go_simp; (try with_reducible rfl)
  (try simp only [Act.put, List.setIfInBounds_toArray, List.set_cons_zero, List.set_cons_succ])
  refine wpAnyH_take (i := 6) (v := ?_) rfl (by kernel_rfl) (by kernel_rfl) (by kernel_rfl) (fun _ _ _ h => h) (Or.inl ⟨by kernel_rfl, ?_⟩) (by assumption) ?_
  rotate_left
  · intro w hSw; (try dsimp only at hSw); go_simp; (try with_reducible rfl)
  (try simp only [Act.put, List.setIfInBounds_toArray, List.set_cons_zero, List.set_cons_succ])
  refine wpAnyH_take (i := 7) (v := ?_) rfl (by kernel_rfl) (by kernel_rfl) (by kernel_rfl) (fun _ _ _ h => h) (Or.inl ⟨by kernel_rfl, ?_⟩) (by assumption) ?_
  rotate_left
  · intro w hSw; (try dsimp only at hSw); go_simp; (try with_reducible rfl)
  (try simp only [Act.put, List.setIfInBounds_toArray, List.set_cons_zero, List.set_cons_succ])
  refine wpAnyH_take (i := 8) (v := ?_) rfl (by kernel_rfl) (by kernel_rfl) (by kernel_rfl) (fun _ _ _ h => h) (Or.inl ⟨by kernel_rfl, ?_⟩) (by assumption) ?_
  rotate_left
  · intro w hSw; (try dsimp only at hSw); go_simp; (try with_reducible rfl)
  (try simp only [Act.put, List.setIfInBounds_toArray, List.set_cons_zero, List.set_cons_succ])
  refine wpAnyH_take (i := 9) (v := ?_) rfl (by kernel_rfl) (by kernel_rfl) (by kernel_rfl) (fun _ _ _ h => h) (Or.inl ⟨by kernel_rfl, ?_⟩) (by assumption) ?_
  rotate_left
  · intro w hSw; (try dsimp only at hSw); go_simp; (try with_reducible rfl)
  (try simp only [Act.put, List.setIfInBounds_toArray, List.set_cons_zero, List.set_cons_succ])
  refine wpAnyH_ready (rs := [10]) (by kernel_rfl) (by simp) ?_
  refine AllReadyH.cons rfl (fun K hK => ?_) AllReadyH.nil
  go_simp
  refine (HS2.out _).mono ?_
  rintro e w3 ⟨rfl, b3⟩
  have I3 := HI2.out.drew.below b3
  clear x0 x1 x3 x4 x6 x7 x8 x9 x10 xl
  obtain ⟨x0, x1, x3, x4, x6, x7, x8, x9, x10, xl⟩ := SunX.all I3.X
  refine hK.out _ _ ⟨x1, x3⟩ (fun hHeld' => ?_)
  clear hK K hHeld
  have hHeld := hHeld'
  clear hHeld'
  (try simp only [Act.put, List.setIfInBounds_toArray, List.set_cons_zero, List.set_cons_succ])
  refine wpAnyH_take (i := 11) (v := ?_) rfl (by kernel_rfl) (by kernel_rfl) (by kernel_rfl) (fun _ _ _ h => h) (Or.inl ⟨by kernel_rfl, ?_⟩) (by assumption) ?_
  rotate_left
  · intro w hSw; (try dsimp only at hSw); go_simp; (try with_reducible rfl)
  (try simp only [Act.put, List.setIfInBounds_toArray, List.set_cons_zero, List.set_cons_succ])
  refine wpAnyH_take (i := 12) (v := ?_) rfl (by kernel_rfl) (by kernel_rfl) (by kernel_rfl) (fun _ _ _ h => h) (Or.inl ⟨by kernel_rfl, ?_⟩) (by assumption) ?_
  rotate_left
  · intro w hSw; (try dsimp only at hSw); go_simp; (try with_reducible rfl)
  (try simp only [Act.put, List.setIfInBounds_toArray, List.set_cons_zero, List.set_cons_succ])
  refine wpAnyH_take (i := 13) (v := ?_) rfl (by kernel_rfl) (by kernel_rfl) (by kernel_rfl) (fun _ _ _ h => h) (Or.inl ⟨by kernel_rfl, ?_⟩) (by assumption) ?_
  rotate_left
  · intro w hSw; (try dsimp only at hSw); go_simp; (try with_reducible rfl)
  (try simp only [Act.put, List.setIfInBounds_toArray, List.set_cons_zero, List.set_cons_succ])
  refine wpAnyH_take (i := 14) (v := ?_) rfl (by kernel_rfl) (by kernel_rfl) (by kernel_rfl) (fun _ _ _ h => h) (Or.inl ⟨by kernel_rfl, ?_⟩) (by assumption) ?_
  rotate_left
  · intro w hSw; (try dsimp only at hSw); go_simp; (try with_reducible rfl)
  (try simp only [Act.put, List.setIfInBounds_toArray, List.set_cons_zero, List.set_cons_succ])
  refine wpAnyH_take (i := 15) (v := ?_) rfl (by kernel_rfl) (by kernel_rfl) (by kernel_rfl) (fun _ _ _ h => h) (Or.inl ⟨by kernel_rfl, ?_⟩) (by assumption) ?_
  rotate_left
  · intro w hSw; (try dsimp only at hSw); go_simp; (try with_reducible rfl)
  (try simp only [Act.put, List.setIfInBounds_toArray, List.set_cons_zero, List.set_cons_succ])
  refine wpAnyH_done (by kernel_rfl) ?_ _
  (try simp only [List.getElem_toArray, List.getElem_cons_succ, List.getElem_cons_zero, List.set_cons_zero, List.set_cons_succ])
  clear hHeld
  have HI3 := Lib.hid I3
  clear I3 b3 HI2
  go_wp2_with fail
  go_loopg [41] n (fun gh v wr => ∃ (i gk : Nat) (t' : SunSt) (y' : Led), gk = gh ∧ i + gk = n ∧ v = .int .i64 (i : Int) ∧ Hid (FillI w wr p g x w.heap.size s h lv fn t' y y' ∧ ∀ k, (sunFill s pk z n t k).run y = (sunFill s pk z gk t' k).run y'))
  case atStart => exact ⟨0, n, t, y, rfl, by omega, rfl, Lib.hid ⟨HI3.out, fun k => rfl⟩⟩
  case round =>
    obtain ⟨i, gk, t', y', rfl, hi, rfl, hP⟩ := hrel
    obtain ⟨I, hrun⟩ := hP.out
    clear HI3 hP x0 x1 x3 x4 x6 x7 x8 x9 x10 xl
    obtain ⟨x0, x1, x3, x4, x6, x7, x8, x9, x10, xl⟩ := SunX.all I.X
    have HI := Lib.hid I
    have HRUN := Lib.hid hrun
    clear I hrun
    by_cases hi4 : i < n
    · have hiI : (i : Int) < (n : Int) := by omega
      have hnI : (n : Int) ≤ 1048576 := by omega
      obtain ⟨gm, rfl⟩ : ∃ gm, gk = gm + 1 := ⟨gk - 1, by omega⟩
      clear esub
      go_wp2_with fail
      refine (HN.out _ _ _ _ _ _ HI.out.S HI.out.L HI.out.X HI.out.ok HI.out.yok HI.out.yr).mono ?_
      rintro e w2 ⟨y2, l2, ok2, b2, tn, hor⟩
      have F2 : FB w2 w.heap.size 0 0 0 := Blk.turn HI.out.F tn HI.out.nin
      have T2 := Lib.hid (HI.out.T.trans tn)
      have hgf : g ≠ w.heap.size := Blk.ne_ l2 F2 (by decide)
      simp only [fltV, flt0] at hor
      rcases hor with ⟨kk, aa, u, v, tz, hk, rfl, Xz, hno⟩ | ⟨v, q, t2, rfl, hv, hq, t2ok, yr2, s2, X2, hyes⟩
      · have hkI : ¬ (kk : Int) = 0 := by omega
        have L2 := Lib.hid l2
        obtain ⟨f0, f1, f2', z0, z1, z2, fl⟩ := FB.all F2
        clear F2 tn l2 Xz x0 x1 x3 x4 x6 x7 x8 x9 x10 xl
        go_wp2_with fail
        exact bodyPost_ret (v := fltV kk aa) (by have := Nat.ne_of_lt fl; simp [results, Tryz.results194, go_sem, f0, f1, f2', fltV, *]) rfl ⟨y2, Blk.alloc (Blk.st3 L2.out hgf) _, ok2, b2.trans HI.out.yb, (Turn.st3 T2.out (.inr HI.out.nf)).alloc _, .inl ⟨kk, aa, hk, rfl, fun k => by rw [HRUN.out k]; exact hno _⟩⟩
      · have HX := Lib.hid X2
        have HS := Lib.hid s2
        have HL := Lib.hid l2
        have HF := Lib.hid F2
        clear F2 X2 s2 l2 tn x0 x1 x3 x4 x6 x7 x8 x9 x10 xl
        go_wp2_with fail
        go_roundg gm
        case measure => omega
        case rel => exact ⟨i + 1, gm, t2, y2, rfl, by omega, by go_num, Lib.hid ⟨⟨Blk.alloc HS.out _, Blk.alloc HL.out _, Blk.alloc HX.out _, Blk.alloc HF.out _, T2.out.alloc _, HI.out.nf, t2ok, ok2, yr2, b2.trans HI.out.yb⟩, fun k => by rw [HRUN.out k]; exact hyes _⟩⟩
    · obtain rfl : i = n := by omega
      obtain rfl : gk = 0 := by omega
      have hiI : ¬ (i : Int) < (i : Int) := by omega
      have HRUN2 : Hid (∀ k, (sunFill s pk z i t k).run y = (k t').run y') := Lib.hid (fun k => HRUN.out k)
      have hgf : g ≠ w.heap.size := Blk.ne_ HI.out.L HI.out.F (by decide)
      have hpf : p ≠ w.heap.size := Blk.ne_ HI.out.S HI.out.F (by decide)
      have hxf : x ≠ w.heap.size := Blk.ne_ HI.out.X HI.out.F (by decide)
      obtain ⟨f0, f1, f2', z0, z1, z2, fl⟩ := FB.all HI.out.F
      clear HRUN
      go_wp2_with fail
      exact bodyPost_ret (v := flt0) (by simp [results, Tryz.results194, go_sem, f0, f1, f2', flt0]) rfl ⟨y', Blk.st3 HI.out.L hgf, HI.out.yok, HI.out.yb, Turn.st3 HI.out.T (.inr HI.out.nf), .inr ⟨t', rfl, HI.out.ok, HI.out.yr, Blk.st3 HI.out.S hpf, Blk.st3 HI.out.X hxf, HRUN2.out⟩⟩
end Go.Proofs.YtccldalagbfmhaaGreat
namespace Go.Proofs.YtccldalagbfmhaaGreat
open Go.RowKit
set_option linter.unusedVariables false
set_option linter.unusedSimpArgs false

structure RowI (w0 w : World) (p g x r b d f : Nat) (s : ByteArray) (h : SunHd) (lv : Value) (fn : Nat) (t : SunSt) (Q : List Qc) (y0 y : Led) : Prop where
  S : SrcAt w p g s 0 s.size t.a
  L : LedAt w g y
  X : SunX w p x h lv fn t
  R : RasAt w r g b (h.W : Int) (h.H : Int) true
  B : BufAt w b g d (pixL Q (4 * (h.W * h.H)))
  M : MapAt w g s h lv (b, d)
  F : FB w f 0 0 0
  T : Turn [p, g, x, d] w0 w
  nf : w0.heap.size ≤ f
  ok : t.Ok s
  yok : y.Ok
  yr : y.reason = 0
  yb : y.bytes = y0.bytes
theorem MapAt.turn {w w' : World} {g : Nat} {nd : Nat × Nat} {s : ByteArray} {h : SunHd} {lv : Value} {S : List Nat} (M : MapAt w g s h lv nd) (k : Turn S w w') (hS : ∀ l b d : Nat, PalHas w l b g d h.n (sunPal s h) → d ≠ nd.2 → l ∉ S ∧ b ∉ S ∧ d ∉ S) : MapAt w' g s h lv nd := by
  rcases M with hn | ⟨h1, h2, l, b, d, hlv, P, hd⟩
  · exact .inl hn
  · obtain ⟨n1, n2, n3⟩ := hS l b d P hd.1
    exact .inr ⟨h1, h2, l, b, d, hlv, P.turn k n1 n2 n3, hd⟩
theorem palX {w : World} {l b g d n p x fn : Nat} {L : List Qc} {h : SunHd} {lv : Value} {t : SunSt} (P : PalHas w l b g d n L) (X : SunX w p x h lv fn t) : l ≠ x ∧ b ≠ x ∧ d ≠ x := by
  obtain ⟨h1, _, rest, h3, _⟩ := P
  exact ⟨Blk.ne_ h1 X (by decide), Blk.ne_ h3.blk X (by decide), Blk.ne_ h3.row X (by decide)⟩
section
variable {w0 w w' : World} {p g x r b d f : Nat} {s : ByteArray} {h : SunHd} {lv : Value} {fn : Nat} {t t' : SunSt} {Q Q' : List Qc} {y0 y y' : Led}
/-- a reading -/
theorem RowI.rd (I : RowI w0 w p g x r b d f s h lv fn t Q y0 y) (k : Turn [p, g, x] w w') (S' : SrcAt w' p g s 0 s.size t'.a) (L' : LedAt w' g y') (X' : SunX w' p x h lv fn t') (ok' : t'.Ok s) (yok' : y'.Ok) (yr' : y'.reason = 0) (yb' : y'.bytes = y.bytes) : RowI w0 w' p g x r b d f s h lv fn t' Q y0 y' := by
  obtain ⟨S, L, X, R, B, M, F, T, nf, ok, yok, yr, yb⟩ := I
  refine ⟨S', L', X', Blk.turn R k ?_, B.turn k ?_ ?_, M.turn k ?_, F.turn k ?_, T.trans (k.mono (by simp)), nf, ok', yok', yr', yb'.trans yb⟩
  · simp only [List.mem_cons, List.not_mem_nil, or_false, not_or]; exact ⟨Blk.ne_ R S (by decide), Blk.ne_ R L (by decide), Blk.ne_ R X (by decide)⟩
  · simp only [List.mem_cons, List.not_mem_nil, or_false, not_or]; exact ⟨Blk.ne_ B.blk S (by decide), Blk.ne_ B.blk L (by decide), Blk.ne_ B.blk X (by decide)⟩
  · simp only [List.mem_cons, List.not_mem_nil, or_false, not_or]; exact ⟨Blk.ne_ B.row S (by decide), Blk.ne_ B.row L (by decide), Blk.ne_ B.row X (by decide)⟩
  · intro l b d P _
    have h1 := P.src S
    have h2 := P.led L
    have h3 := palX P X
    simp only [List.mem_cons, List.not_mem_nil, or_false, not_or]
    exact ⟨⟨h1.1, h2.1, h3.1⟩, ⟨h1.2.1, h2.2.1, h3.2.1⟩, ⟨h1.2.2, h2.2.2, h3.2.2⟩⟩
  · simp only [List.mem_cons, List.not_mem_nil, or_false, not_or]; exact ⟨Blk.ne_ F S (by decide), Blk.ne_ F L (by decide), Blk.ne_ F X (by decide)⟩
theorem RowI.below (I : RowI w0 w p g x r b d f s h lv fn t Q y0 y) (k : Below w.heap.size w w') : RowI w0 w' p g x r b d f s h lv fn t Q y0 y :=
  I.rd (Turn.of_below k) (Blk.below I.S k (Blk.lt I.S)) (Blk.below I.L k (Blk.lt I.L)) (Blk.below I.X k (Blk.lt I.X)) I.ok I.yok I.yr rfl
theorem RowI.alloc (I : RowI w0 w p g x r b d f s h lv fn t Q y0 y) (o : Obj) : RowI w0 (w.alloc o) p g x r b d f s h lv fn t Q y0 y := I.below ((Below.refl _ _).alloc (Nat.le_refl _) _)
theorem RowI.drew (I : RowI w0 w p g x r b d f s h lv fn t Q y0 y) : RowI w0 w.drew p g x r b d f s h lv fn t Q y0 y := by
  obtain ⟨S, L, X, R, B, M, F, T, nf, ok, yok, yr, yb⟩ := I
  exact ⟨S, L, X, R, ⟨B.blk, B.row⟩, M.turn (Turn.refl [] w).drew (fun _ _ _ _ _ => ⟨by simp, by simp, by simp⟩), F, T.drew, nf, ok, yok, yr, yb⟩
/-- a pixel is told -/
theorem RowI.set (I : RowI w0 w p g x r b d f s h lv fn t Q y0 y) (k : Turn [g, d] w w') (B' : BufAt w' b g d (pixL Q' (4 * (h.W * h.H)))) (l' : LedAt w' g y') (yok' : y'.Ok) (yr' : y'.reason = 0) (yb' : y'.bytes = y.bytes) : RowI w0 w' p g x r b d f s h lv fn t Q' y0 y' := by
  obtain ⟨S, L, X, R, B, M, F, T, nf, ok, yok, yr, yb⟩ := I
  refine ⟨S.turn k ?_, l', Blk.turn X k ?_, Blk.turn R k ?_, B', M.turn k ?_, F.turn k ?_, T.trans (k.mono (by simp)), nf, ok, yok', yr', yb'.trans yb⟩
  all_goals simp only [List.mem_cons, List.not_mem_nil, or_false, not_or]
  · exact ⟨Blk.ne_ S L (by decide), Blk.ne_ S B.row (by decide)⟩
  · exact ⟨Blk.ne_ X L (by decide), Blk.ne_ X B.row (by decide)⟩
  · exact ⟨Blk.ne_ R L (by decide), Blk.ne_ R B.row (by decide)⟩
  · intro l b' d' P hd
    have h2 := P.led L
    have h3 : l ≠ d ∧ b' ≠ d := by
      obtain ⟨k1, _, rest, k3, _⟩ := P
      exact ⟨Blk.ne_ k1 B.row (by decide), Blk.ne_ k3.blk B.row (by decide)⟩
    exact ⟨⟨h2.1, h3.1⟩, ⟨h2.2.1, h3.2⟩, ⟨h2.2.2, hd⟩⟩
  · exact ⟨Blk.ne_ F L (by decide), Blk.ne_ F B.row (by decide)⟩
/-- steps on another block, of none of these kinds -/
theorem RowI.own (I : RowI w0 w p g x r b d f s h lv fn t Q y0 y) {q : Nat} (k : Turn [q] w w') (hq : q ∉ [p, g, x, r, b, d, f]) (hm : ∀ l b d : Nat, PalHas w l b g d h.n (sunPal s h) → l ≠ q ∧ b ≠ q ∧ d ≠ q) (hn : w0.heap.size ≤ q) : RowI w0 w' p g x r b d f s h lv fn t Q y0 y := by
  obtain ⟨S, L, X, R, B, M, F, T, nf, ok, yok, yr, yb⟩ := I
  simp only [List.mem_cons, List.not_mem_nil, or_false, not_or] at hq
  obtain ⟨q1, q2, q3, q4, q5, q6, q7⟩ := hq
  exact ⟨S.turn k (by simpa using Ne.symm q1), L.turn k (by simpa using Ne.symm q2), Blk.turn X k (by simpa using Ne.symm q3), Blk.turn R k (by simpa using Ne.symm q4), B.turn k (by simpa using Ne.symm q5) (by simpa using Ne.symm q6), M.turn k (fun l b d P _ => by simpa using hm l b d P), F.turn k (by simpa using Ne.symm q7), T.next k (fun i hi => .inr (by simp only [List.mem_cons, List.not_mem_nil, or_false] at hi; omega)), nf, ok, yok, yr, yb⟩
/-- a box of a colour, or of a fault, is no block of these -/
theorem RowI.box (I : RowI w0 w p g x r b d f s h lv fn t Q y0 y) {q : Nat} {T : TypeId} {cs : Array Value} (k : Blk w q T cs) (h1 : T = 131 ∨ (T = 31 ∧ q ≠ f)) : q ∉ [p, g, x, r, b, d, f] ∧ ∀ l b d : Nat, PalHas w l b g d h.n (sunPal s h) → l ≠ q ∧ b ≠ q ∧ d ≠ q := by
  obtain ⟨S, L, X, R, B, M, F, _⟩ := I
  simp only [List.mem_cons, List.not_mem_nil, or_false, not_or]
  rcases h1 with rfl | ⟨rfl, hf⟩
  · refine ⟨⟨Blk.ne_ k S (by decide), Blk.ne_ k L (by decide), Blk.ne_ k X (by decide), Blk.ne_ k R (by decide), Blk.ne_ k B.blk (by decide), Blk.ne_ k B.row (by decide), Blk.ne_ k F (by decide)⟩, fun l b d P => ?_⟩
    obtain ⟨k1, _, rest, k3, _⟩ := P
    exact ⟨Blk.ne_ k1 k (by decide), Blk.ne_ k3.blk k (by decide), Blk.ne_ k3.row k (by decide)⟩
  · refine ⟨⟨Blk.ne_ k S (by decide), Blk.ne_ k L (by decide), Blk.ne_ k X (by decide), Blk.ne_ k R (by decide), Blk.ne_ k B.blk (by decide), Blk.ne_ k B.row (by decide), hf⟩, fun l b d P => ?_⟩
    obtain ⟨k1, _, rest, k3, _⟩ := P
    exact ⟨Blk.ne_ k1 k (by decide), Blk.ne_ k3.blk k (by decide), Blk.ne_ k3.row k (by decide)⟩
theorem RowI.sv4 (I : RowI w0 w p g x r b d f s h lv fn t Q y0 y) {q : Nat} {cs : Array Value} {u0 u1 u2 u3 : Value} (k : Blk w q 131 cs) (hn : w0.heap.size ≤ q) : RowI w0 (sv4 w q u0 u1 u2 u3) p g x r b d f s h lv fn t Q y0 y :=
  I.own (Turn.sv4 (Turn.refl [q] w) (.inl (by simp))) (I.box k (.inl rfl)).1 (I.box k (.inl rfl)).2 hn
theorem RowI.st3 (I : RowI w0 w p g x r b d f s h lv fn t Q y0 y) {q : Nat} {cs : Array Value} {u0 u1 u2 : Value} (k : Blk w q 31 cs) (hf : q ≠ f) (hn : w0.heap.size ≤ q) : RowI w0 (st3 w q u0 u1 u2) p g x r b d f s h lv fn t Q y0 y :=
  I.own (Turn.st3 (Turn.refl [q] w) (.inl (by simp))) (I.box k (.inr ⟨rfl, hf⟩)).1 (I.box k (.inr ⟨rfl, hf⟩)).2 hn
end
/-- what a row leaves -/
def RowPost (w w' : World) (p g x r b d : Nat) (s : ByteArray) (h : SunHd) (lv : Value) (fn : Nat) (pk : Bool) (z : Nat) (t : SunSt) (L : List Qc) (y : Led) (e : Ending) : Prop :=
  ∃ y' L', LedAt w' g y' ∧ y'.Ok ∧ y'.bytes = y.bytes ∧ Turn [p, g, x, d] w w' ∧ BufAt w' b g d (pixL L' (4 * (h.W * h.H))) ∧ 4 * L'.length ≤ 4 * (h.W * h.H) ∧
    ((∃ kk aa : Nat, kk ≠ 0 ∧ e = .returned (fltV kk aa) ∧ ∀ k, (sunRow s pk z h (sunFills h) h.W 0 0 0 t L k).run y = ((y'.give (z : Int)).1, .bad kk aa)) ∨
     (∃ t' : SunSt, e = .returned flt0 ∧ t'.Ok s ∧ y'.reason = 0 ∧ SrcAt w' p g s 0 s.size t'.a ∧ SunX w' p x h lv fn t' ∧ L'.length = L.length + h.W ∧ ∀ k, (sunRow s pk z h (sunFills h) h.W 0 0 0 t L k).run y = (k t' L').run y'))
theorem sunRow_succ {s : ByteArray} {pk : Bool} {z : Nat} {h : SunHd} {fill n i v q : Nat} {t : SunSt} {L : List Qc} {k : SunSt → List Qc → Dec} : sunRow s pk z h fill (n + 1) i v q t L k = sunPixel s pk z h i v q t fun c v q t => .work 1 z t.a (sunRow s pk z h fill n (i + 1) v q t (L ++ [c]) k) := rfl
theorem sunPixel_many {s : ByteArray} {pk : Bool} {z : Nat} {h : SunHd} {i v q : Nat} {t : SunSt} {k : Qc → Nat → Nat → SunSt → Dec} (hb : 8 < h.bits) : sunPixel s pk z h i v q t k = sunColor s pk z h t fun c t => k c v q t := by
  unfold sunPixel
  rw [if_pos hb]
theorem sunPixel_byte {s : ByteArray} {pk : Bool} {z : Nat} {h : SunHd} {i v q : Nat} {t : SunSt} {k : Qc → Nat → Nat → SunSt → Dec} (hb : h.bits = 8) : sunPixel s pk z h i v q t k = sunNext s pk z t fun v q t => sunEntry s z h v q fun c => k c v q t := by
  unfold sunPixel
  rw [if_neg (by omega), if_pos hb]
theorem sunPixel_bit0 {s : ByteArray} {pk : Bool} {z : Nat} {h : SunHd} {i v q : Nat} {t : SunSt} {k : Qc → Nat → Nat → SunSt → Dec} (hb : h.bits = 1) (hi : i % 8 = 0) : sunPixel s pk z h i v q t k = sunNext s pk z t fun v q t => sunEntry s z h (v / 2 ^ (7 - i % 8) % 2) q fun c => k c v q t := by
  unfold sunPixel
  rw [if_neg (by omega), if_neg (by omega), if_pos hi]
theorem sunPixel_bit {s : ByteArray} {pk : Bool} {z : Nat} {h : SunHd} {i v q : Nat} {t : SunSt} {k : Qc → Nat → Nat → SunSt → Dec} (hb : h.bits = 1) (hi : i % 8 ≠ 0) : sunPixel s pk z h i v q t k = sunEntry s z h (v / 2 ^ (7 - i % 8) % 2) q fun c => k c v q t := by
  unfold sunPixel
  rw [if_neg (by omega), if_neg (by omega), if_neg hi]
theorem sunRow_len {Y W H n m : Nat} (hY : Y < H) (h : n = m + W) (hL : m = Y * W) : 4 * n ≤ 4 * (W * H) := by
  have : Y * W + W ≤ W * H := by rw [← Nat.succ_mul, Nat.mul_comm W H]; exact Nat.mul_le_mul_right _ hY
  omega
theorem EntPost.ways {w w' : World} {s : ByteArray} {h : SunHd} {v q : Nat} {e : Ending} (E : EntPost w w' s h v q e) : Below w.heap.size w w' ∧ ((∃ c, sunEnt s h v = some c ∧ e = .returned (.tuple #[c.v, flt0])) ∨ (sunEnt s h v = none ∧ e = .returned (.tuple #[colV0, fltV 2 q]))) := by
  obtain ⟨b, hm⟩ := E
  refine ⟨b, ?_⟩
  cases hs : sunEnt s h v with
  | some c => rw [hs] at hm; exact .inl ⟨c, rfl, hm⟩
  | none => rw [hs] at hm; exact .inr ⟨rfl, hm⟩
theorem sunEntry_some {s : ByteArray} {z : Nat} {h : SunHd} {v q : Nat} {c : Qc} {k : Qc → Dec} (hs : sunEnt s h v = some c) : sunEntry s z h v q k = k c := by
  unfold sunEntry; rw [hs]
theorem sunEntry_none {s : ByteArray} {z : Nat} {h : SunHd} {v q : Nat} {k : Qc → Dec} (hs : sunEnt s h v = none) : sunEntry s z h v q k = .give z (.fin (.bad 2 q)) := by
  unfold sunEntry; rw [hs]
theorem bit_of {v n : Nat} (hv : v < 4294967296) : bits .and .i64 ((v : Int) / 2 ^ n) 1 = ((v / 2 ^ n % 2 : Nat) : Int) := by
  have e : (v : Int) / 2 ^ n = ((v / 2 ^ n : Nat) : Int) := by rw [Int.natCast_ediv]; simp
  have hb : v / 2 ^ n < 4294967296 := Nat.lt_of_le_of_lt (Nat.div_le_self _ _) hv
  rw [e, show (1 : Int) = ((1 : Nat) : Int) from rfl, and64 _ _ (by omega) (by omega), Nat.and_one_is_mod]
theorem bit_le (v n : Nat) : v / 2 ^ n % 2 ≤ 1 := Nat.le_of_lt_succ (Nat.mod_lt _ (by decide))
theorem bit_lt (v n : Nat) : v / 2 ^ n % 2 < 256 := Nat.lt_of_le_of_lt (bit_le v n) (by decide)
end Go.Proofs.YtccldalagbfmhaaGreat
