/- The document's Read, Sides and pixel, joined. The document's Decode of a file of Sun's. -/
import Derived.Test.YtccldalagbfmhaaGreatSunT
import Derived.Test.YtccldalagbfmhaaGreatSunP
import Derived.Deep.CutRange
import Derived.Deep.CutBlock
namespace Go.Proofs.YtccldalagbfmhaaGreat
open Go.RowKit
set_option linter.unusedVariables false
set_option linter.unusedSimpArgs false

/-- what the document tells of a head -/
def sunRdV (s : ByteArray) : Value := if s.size < 32 then hdV 0 0 0 0 0 1 (s.size : Int) else match sunHead s with
  | some f => hdV 0 0 0 0 0 (f.1 : Int) (f.2 : Int)
  | none => hdV ((sunHd s).W : Int) ((sunHd s).H : Int) ((sunHd s).bits : Int) ((sunHd s).typ : Int) ((sunHd s).n : Int) 0 0
theorem refSunReadC {s : ByteArray} (hsm : s.size ≤ 1099511627776) (w : World) : Calls Tryz.prog 58 #[.string s] w fun e w' => e = .returned (sunRdV s) ∧ Below w.heap.size w w' := by
  unfold sunRdV
  by_cases h : s.size < 32
  · rw [if_pos h]; exact refSunRead_short h w
  · rw [if_neg h]
    have o := offFrom_is s sunW 4 0
    unfold sunHead
    by_cases hh : offFrom s sunW 4 0 < 4
    · rw [if_pos hh]
      exact refSunRead_word (by omega) hsm hh o w
    · rw [if_neg hh]
      have e : offFrom s sunW 4 0 = 4 := by have := o.hi; omega
      rw [e] at o
      exact refSunRead_rest (by omega) hsm o rfl rfl rfl rfl rfl rfl w
theorem refSunSides {s : ByteArray} (hsm : s.size ≤ 1099511627776) (w : World) : Calls Tryz.prog 14 #[.string s] w fun e w' => e = .returned (.tuple #[.int .i64 ((sunSides s).1 : Int), .int .i64 ((sunSides s).2 : Int)]) ∧ Below w.heap.size w w' := by
  have HR := Lib.hid (fun w => refSunReadC hsm w)
  have key : ∃ d t n k a : Int, sunRdV s = hdV ((sunSides s).1 : Int) ((sunSides s).2 : Int) d t n k a := by
    unfold sunRdV sunSides
    by_cases h : s.size < 32
    · rw [if_pos h, if_pos h]; exact ⟨_, _, _, _, _, rfl⟩
    · rw [if_neg h, if_neg h]
      cases sunHead s with
      | some f => exact ⟨_, _, _, _, _, rfl⟩
      | none => exact ⟨_, _, _, _, _, rfl⟩
  obtain ⟨d, t, n, k, a, hk⟩ := key
  rw [hk] at HR
  unfold hdV hd7 at HR
  generalize (sunSides s).1 = W at HR ⊢
  generalize (sunSides s).2 = H at HR ⊢
  clear hk
  go_enter Tryz.func14, Tryz.ntmps14
  go_wp2_with (go_at_call 58; refine (HR.out _).mono ?_; rintro e w1 ⟨rfl, b1⟩)
  go_region
  go_wp2_with fail
  exact bodyPost_ret (v := .tuple #[.int .i64 (W : Int), .int .i64 (H : Int)]) (by simp [results, Tryz.results14, go_sem]) rfl ⟨rfl, (b1.alloc b1.size _).drew⟩
/-- a pixel's colour, of its bytes -/
def sunColB (s : ByteArray) (h : SunHd) (b : ByteArray) (x : Nat) : Option Qc :=
  if 8 < h.bits then (if h.bits = 32 then some (sunQ h (bat b 1) (bat b 2) (bat b 3)) else some (sunQ h (bat b 0) (bat b 1) (bat b 2)))
  else sunEnt s h (if h.bits = 1 then bat b 0 / 2 ^ (7 - x % 8) % 2 else bat b 0)
theorem ofBat {b : ByteArray} {i : Nat} (h : i < b.size) : UInt8.ofNat (bat b i) = b[i] := by rw [bat_eq h]; simp
theorem refSunPixel {s b : ByteArray} {W H d t n x : Nat} (hd : SunDepth d) (hb : b.size = sunSize ⟨W, H, d, t, n⟩) (hsm : s.size ≤ 1099511627776) (hn : n ≤ 256) (hs : 32 + 3 * n ≤ s.size) (w : World) :
    Calls Tryz.prog 70 #[.string s, hdV (W : Int) (H : Int) (d : Int) (t : Int) (n : Int) 0 0, .string b, .int .i64 (x : Int)] w fun e w' => e = .returned (.tuple #[Qc.v ((sunColB s ⟨W, H, d, t, n⟩ b x).getD ⟨0, 0, 0, 0⟩), .bool (sunColB s ⟨W, H, d, t, n⟩ b x).isSome]) ∧ Below w.heap.size w w' := by
  unfold sunColB
  rcases hd with rfl | rfl | rfl | rfl
  · have hb' : b.size = 1 := hb
    exact refSunPix1 hb' hsm hn hs rfl w
  · have hb' : b.size = 1 := hb
    exact refSunPix8 hb' hsm hn hs rfl w
  · have hb' : b.size = 3 := by rw [hb]; simp [sunSize]
    have e : sunQ ⟨W, H, 24, t, n⟩ (bat b 0) (bat b 1) (bat b 2) = if t = 3 then ⟨b[0], b[1], b[2], 255⟩ else ⟨b[2], b[1], b[0], 255⟩ := by
      unfold sunQ
      rw [ofBat (by omega), ofBat (by omega), ofBat (by omega)]
    have := refSunPix24 (s := s) (W := W) (H := H) (t := t) (n := n) (x := x) hb' rfl rfl rfl w
    rw [← e] at this
    exact this
  · have hb' : b.size = 4 := by rw [hb]; simp [sunSize]
    have e : sunQ ⟨W, H, 32, t, n⟩ (bat b 1) (bat b 2) (bat b 3) = if t = 3 then ⟨b[1], b[2], b[3], 255⟩ else ⟨b[3], b[2], b[1], 255⟩ := by
      unfold sunQ
      rw [ofBat (by omega), ofBat (by omega), ofBat (by omega)]
    have := refSunPix32 (s := s) (W := W) (H := H) (t := t) (n := n) (x := x) hb' rfl rfl rfl w
    rw [← e] at this
    exact this
theorem bat_strOf (l : List UInt8) (i : Nat) : bat (strOf l) i = (l.getD i 0).toNat := by
  unfold bat nats
  rw [strOf_toList]
  simp only [List.getD_eq_getElem?_getD, List.getElem?_map]
  cases l[i]? <;> rfl
theorem zb8_at {Z : List (Nat × Nat)} (hz : ∀ x ∈ Z, x.1 < 256) {a n i : Nat} (h : a + n ≤ Z.length) (hi : i < n) : bat ((strOf (zb8 Z)).extract a (a + n)) i = zv Z (a + i) := by
  rw [bat_extract _ _ _ _ hi, bat_strOf]
  unfold zb8 zv
  have hl : a + i < Z.length := by omega
  simp only [List.getD_eq_getElem?_getD, List.getElem?_map, List.getElem?_eq_getElem hl, Option.map_some, Option.getD_some]
  rw [UInt8.toNat_ofNat', Nat.mod_eq_of_lt (hz _ (List.getElem_mem hl))]
theorem sunColB_at {s : ByteArray} {h : SunHd} {Z : List (Nat × Nat)} (hd : SunDepth h.bits) (hz : ∀ x ∈ Z, x.1 < 256) {a x : Nat} (ha : a + sunSize h ≤ Z.length) : sunColB s h ((strOf (zb8 Z)).extract a (a + sunSize h)) x = sunColAt s h Z a x := by
  unfold sunColB sunColAt
  by_cases h8 : 8 < h.bits
  · rw [if_pos h8, if_pos h8]
    by_cases h32 : h.bits = 32
    · rw [if_pos h32, if_pos h32]
      have e : sunSize h = 4 := by unfold sunSize; rw [if_pos h8]; omega
      rw [e] at ha ⊢
      rw [zb8_at hz ha (by omega), zb8_at hz ha (by omega), zb8_at hz ha (by omega)]
    · rw [if_neg h32, if_neg h32]
      have e : sunSize h = 3 := by unfold sunSize; rw [if_pos h8]; unfold SunDepth at hd; omega
      rw [e] at ha ⊢
      rw [zb8_at hz ha (by omega), zb8_at hz ha (by omega), zb8_at hz ha (by omega)]
      rfl
  · rw [if_neg h8, if_neg h8]
    have e : sunSize h = 1 := by unfold sunSize; rw [if_neg h8]
    rw [e] at ha ⊢
    rw [zb8_at hz ha (by omega)]
    rfl
end Go.Proofs.YtccldalagbfmhaaGreat
namespace Go.Proofs.YtccldalagbfmhaaGreat
open Go.RowKit
set_option linter.unusedVariables false
set_option linter.unusedSimpArgs false

theorem Owns1.grownQ {w w' : World} {base base' : Nat} {T : TypeId} {v u : Value} {L : List Value} {M : List Qc} (h : Owns1 w base T v L) (o : OwnsQ w base' u M) (hT : T ≠ 131) (hg : w.grownBy w' u.ownBlock) : Owns1 w' base T v L :=
  h.kept hg (by
    rcases h.2 with ⟨rfl, _⟩ | ⟨r, cap, cur, rfl, _, hr, _⟩
    · exact .inl rfl
    · refine .inr fun e => ?_
      rcases o.2 with ⟨rfl, _⟩ | ⟨r', cap', cur', rfl, _, hr', _⟩
      · cases e
      · have hk : r = r' := by simpa [Value.ownBlock] using e
        subst hk
        exact absurd rfl (Blk.ne_ hr hr' hT))
theorem Owns1.stay {w w' : World} {base : Nat} {T : TypeId} {v : Value} {L : List Value} (h : Owns1 w base T v L) (hb : Below w.heap.size w w') : Owns1 w' base T v L :=
  h.kept (row := none) ⟨hb.os, hb.tape, hb.output, hb.size, fun i hi _ => hb.block i hi⟩ (by cases v.ownBlock <;> simp)
theorem below_drewN' {B : Nat} {a w : World} (h : Below B a w) (j : Nat) : Below B a (w.drewN j) := h.trans ⟨rfl, rfl, rfl, Nat.le_refl _, fun _ _ => rfl⟩
/-- what holds at each pixel -/
structure SdI (w0 w : World) (ph pb po W H d t n : Nat) (zs : ByteArray) (vp : Value) (Zp : List Value) (sh : Bool) (v : Value) (L : List Qc) : Prop where
  A : RI w w0.heap.size 0 0 (.slice none 0 0) 0 0
  Hd : Blk w ph 93 (hd7 (W : Int) (H : Int) (d : Int) (t : Int) (n : Int) 0 0)
  Bx : Blk w pb 128 #[.string zs, vp, .bool sh]
  X : RI w po (W : Int) (H : Int) v 0 0
  P : Owns1 w w0.heap.size 3 vp Zp
  O : OwnsQ w w0.heap.size v L
  B : Below w0.heap.size w0 w
  np : w0.heap.size < po
section
variable {w0 w w' : World} {ph pb po W H d t n : Nat} {zs : ByteArray} {vp v : Value} {Zp : List Value} {sh : Bool} {L : List Qc}
theorem SdI.below (h : SdI w0 w ph pb po W H d t n zs vp Zp sh v L) (b : Below w.heap.size w w') : SdI w0 w' ph pb po W H d t n zs vp Zp sh v L :=
  ⟨Blk.below h.A b (Blk.lt h.A), Blk.below h.Hd b (Blk.lt h.Hd), Blk.below h.Bx b (Blk.lt h.Bx), Blk.below h.X b (Blk.lt h.X), h.P.stay b, h.O.below b, below_next h.B b, h.np⟩
theorem SdI.alloc (h : SdI w0 w ph pb po W H d t n zs vp Zp sh v L) (x : Obj) : SdI w0 (w.alloc x) ph pb po W H d t n zs vp Zp sh v L := h.below ((Below.refl _ _).alloc (Nat.le_refl _) _)
theorem SdI.drew (h : SdI w0 w ph pb po W H d t n zs vp Zp sh v L) : SdI w0 w.drew ph pb po W H d t n zs vp Zp sh v L :=
  ⟨Blk.drew h.A, Blk.drew h.Hd, Blk.drew h.Bx, Blk.drew h.X, h.P.drew, h.O, h.B.drew, h.np⟩
theorem SdI.drewN (h : SdI w0 w ph pb po W H d t n zs vp Zp sh v L) (j : Nat) : SdI w0 (w.drewN j) ph pb po W H d t n zs vp Zp sh v L :=
  ⟨Blk.drewN h.A j, Blk.drewN h.Hd j, Blk.drewN h.Bx j, Blk.drewN h.X j, h.P.drewN j, h.O, below_drewN' h.B j, h.np⟩
theorem SdI.heads (h : SdI w0 w ph pb po W H d t n zs vp Zp sh v L) : w.cell? ⟨ph, 0, none⟩ = some (.int .i64 (W : Int)) ∧ w.cell? ⟨ph, 1, none⟩ = some (.int .i64 (H : Int)) ∧ w.cell? ⟨ph, 2, none⟩ = some (.int .i64 (d : Int)) ∧ w.cell? ⟨ph, 3, none⟩ = some (.int .i64 (t : Int)) ∧ w.cell? ⟨ph, 4, none⟩ = some (.int .i64 (n : Int)) ∧ w.cell? ⟨ph, 5, none⟩ = some (.int .i64 0) ∧ w.cell? ⟨ph, 6, none⟩ = some (.int .i64 0) ∧
    w.cell? ⟨pb, 0, none⟩ = some (.string zs) ∧ w.cell? ⟨pb, 1, none⟩ = some vp ∧ w.cell? ⟨pb, 2, none⟩ = some (.bool sh) :=
  ⟨Blk.cell h.Hd 0, Blk.cell h.Hd 1, Blk.cell h.Hd 2, Blk.cell h.Hd 3, Blk.cell h.Hd 4, Blk.cell h.Hd 5, Blk.cell h.Hd 6, Blk.cell h.Bx 0, Blk.cell h.Bx 1, Blk.cell h.Bx 2⟩
/-- what a pixel's call reads -/
def SdS (ph pb W H d t n : Nat) (zs : ByteArray) (w : World) : Prop := w.cell? ⟨ph, 0, none⟩ = some (.int .i64 (W : Int)) ∧ w.cell? ⟨ph, 1, none⟩ = some (.int .i64 (H : Int)) ∧ w.cell? ⟨ph, 2, none⟩ = some (.int .i64 (d : Int)) ∧ w.cell? ⟨ph, 3, none⟩ = some (.int .i64 (t : Int)) ∧ w.cell? ⟨ph, 4, none⟩ = some (.int .i64 (n : Int)) ∧ w.cell? ⟨ph, 5, none⟩ = some (.int .i64 0) ∧ w.cell? ⟨ph, 6, none⟩ = some (.int .i64 0) ∧ w.cell? ⟨pb, 0, none⟩ = some (.string zs)
theorem SdI.sds (h : SdI w0 w ph pb po W H d t n zs vp Zp sh v L) : SdS ph pb W H d t n zs w := ⟨Blk.cell h.Hd 0, Blk.cell h.Hd 1, Blk.cell h.Hd 2, Blk.cell h.Hd 3, Blk.cell h.Hd 4, Blk.cell h.Hd 5, Blk.cell h.Hd 6, Blk.cell h.Bx 0⟩
theorem wp_gen {c : Code} {Q : Exit → Act → World → Prop} {a : Act} {w : World} {S : World → Prop} (hS : S w) (h : ∀ wx, S wx → c.wp Tryz.prog Q a wx) : c.wp Tryz.prog Q a w := h w hS
theorem SdI.lay4 (h : SdI w0 w ph pb po W H d t n zs vp Zp sh v L) (b : Below w.heap.size w w') {cb : Nat} (hc : w.heap.size ≤ cb) {u0 u1 u2 u3 : Value} : SdI w0 ((((w'.setCell ⟨cb, 0, none⟩ u0).setCell ⟨cb, 1, none⟩ u1).setCell ⟨cb, 2, none⟩ u2).setCell ⟨cb, 3, none⟩ u3) ph pb po W H d t n zs vp Zp sh v L :=
  h.below (below_set (below_set (below_set (below_set b hc) hc) hc) hc)
theorem col4 {w : World} {cb : Nat} {v0 v1 v2 v3 u0 u1 u2 u3 : Value} (h : Blk w cb 131 #[v0, v1, v2, v3]) : Blk ((((w.setCell ⟨cb, 0, none⟩ u0).setCell ⟨cb, 1, none⟩ u1).setCell ⟨cb, 2, none⟩ u2).setCell ⟨cb, 3, none⟩ u3) cb 131 #[u0, u1, u2, u3] :=
  (Blk.set_ (Blk.set_ (Blk.set_ (Blk.set_ h 0 u0) 1 u1) 2 u2) 3 u3).eq_ (by simp)
theorem col4_all {w : World} {cb : Nat} {v0 v1 v2 v3 : Value} (h : Blk w cb 131 #[v0, v1, v2, v3]) : w.cell? ⟨cb, 0, none⟩ = some v0 ∧ w.cell? ⟨cb, 1, none⟩ = some v1 ∧ w.cell? ⟨cb, 2, none⟩ = some v2 ∧ w.cell? ⟨cb, 3, none⟩ = some v3 ∧ w.frozen? ⟨cb, 0, none⟩ = false ∧ w.frozen? ⟨cb, 1, none⟩ = false ∧ w.frozen? ⟨cb, 2, none⟩ = false ∧ w.frozen? ⟨cb, 3, none⟩ = false ∧ cb < w.heap.size :=
  ⟨Blk.cell h 0, Blk.cell h 1, Blk.cell h 2, Blk.cell h 3, Blk.frozen h 0, Blk.frozen h 1, Blk.frozen h 2, Blk.frozen h 3, Blk.lt h⟩
theorem SdI.grow {u : Value} {c : Qc} (h : SdI w0 w ph pb po W H d t n zs vp Zp sh v L) (o : OwnsQ w' w0.heap.size u (L ++ [c])) (b : Below w0.heap.size w w') (g : w.grownBy w' v.ownBlock) : SdI w0 (w'.setCell ⟨po, 2, none⟩ u) ph pb po W H d t n zs vp Zp sh u (L ++ [c]) := by
  have X1 : RI w' po (W : Int) (H : Int) v 0 0 := Blk.grownQ h.X h.O (by decide) g
  have A1 : RI w' w0.heap.size 0 0 (.slice none 0 0) 0 0 := Blk.grownQ h.A h.O (by decide) g
  have H1 := Blk.grownQ h.Hd h.O (by decide) g
  have B1 := Blk.grownQ h.Bx h.O (by decide) g
  have P1 := h.P.grownQ h.O (by decide) g
  exact ⟨Blk.far A1 (p := ⟨po, 2, none⟩) (Nat.ne_of_lt h.np) u, Blk.far H1 (p := ⟨po, 2, none⟩) (Blk.ne_ H1 X1 (by decide)) u, Blk.far B1 (p := ⟨po, 2, none⟩) (Blk.ne_ B1 X1 (by decide)) u, (Blk.set_ X1 2 u).eq_ (by simp [ri5]), P1.turnS (S := [po]) ((Turn.refl _ _).set_ 2 u (by simp)) (fun j hj => by rw [List.mem_singleton] at hj; subst hj; exact ⟨_, _, X1, by decide⟩), OwnsQ.farRI o X1, below_set (h.B.trans b) (Nat.le_of_lt h.np), h.np⟩
theorem SdI.outs (h : SdI w0 w ph pb po W H d t n zs vp Zp sh v L) {W' H' k i : Int} : Below w0.heap.size w0 (st5 w w0.heap.size (.int .i64 W') (.int .i64 H') v (.int .i64 k) (.int .i64 i)) ∧ OwnsQ (st5 w w0.heap.size (.int .i64 W') (.int .i64 H') v (.int .i64 k) (.int .i64 i)) w0.heap.size v L :=
  ⟨Below.st5 h.B (Nat.le_refl _), OwnsQ.st5RI h.O h.A⟩
end
set_option maxRecDepth 100000 in
set_option maxHeartbeats 8000000 in
theorem refSunDec1 {s : ByteArray} {W H t n : Nat} {D : DRes} (hsm : s.size ≤ 1099511627776) (hs : 32 + 3 * n ≤ s.size) (hW : 1 ≤ W ∧ W ≤ 16384) (hH : 1 ≤ H ∧ H ≤ 16384) (hn : n ≤ 256) (hR : sunRdV s = hdV (W : Int) (H : Int) ((1 : Nat) : Int) (t : Int) (n : Int) 0 0)
    (hD : sunPix2 s ⟨W, H, 1, t, n⟩ (sunZ s ⟨W, H, 1, t, n⟩) (W * H) 0 [] = D) (w : World) : Calls Tryz.prog 24 #[.string s] w fun e w' => RefPost D w w' e := by
  obtain ⟨F0, B0⟩ := ri_new w
  have HR := Lib.hid (fun w => refSunReadC hsm w)
  rw [hR] at HR
  unfold hdV hd7 at HR
  have HLN := Lib.hid (fun w => refSunLine (W := W) (H := H) (d := 1) (t := t) (n := n) hW.2 (by omega) w)
  unfold hdV hd7 at HLN
  obtain ⟨ln, hln⟩ : ∃ l, (W * 1 + 15) / 16 * 2 = l := ⟨_, rfl⟩
  rw [hln] at HLN
  have hlnB : ln ≤ 65536 := by omega
  have hlW : (W * 1 + 7) / 8 ≤ ln := by omega
  have hSL : sunLine ⟨W, H, 1, t, n⟩ = ln := hln
  obtain ⟨M, hM⟩ : ∃ M, ln * H = M := ⟨_, rfl⟩
  have hMB : M ≤ 65536 * 16384 := by rw [← hM]; exact Nat.mul_le_mul hlnB hH.2
  obtain ⟨N, hN⟩ : ∃ N, W * H = N := ⟨_, rfl⟩
  have hNB : N ≤ 16384 * 16384 := by rw [← hN]; exact Nat.mul_le_mul hW.2 hH.2
  obtain ⟨a0, ha0⟩ : ∃ a, 32 + 3 * n = a := ⟨_, rfl⟩
  have ha0I : 32 + 3 * (n : Int) = (a0 : Int) := by omega
  have ha0s : ¬ (s.size : Int) < (a0 : Int) := by omega
  have ha0N : ¬ s.size < a0 := by omega
  obtain ⟨pk, hpk⟩ : ∃ pk, decide (t = 2) = pk := ⟨_, rfl⟩
  have hpkI : ((t : Int) == 2) = pk := by rw [← hpk]; by_cases h : t = 2 <;> simp [h] <;> omega
  obtain ⟨Z, hZ⟩ : ∃ Z, sunZ s ⟨W, H, 1, t, n⟩ = Z := ⟨_, rfl⟩
  have hZE : sunExp s pk M ⟨a0, 0, 0, 0⟩ = Z := by rw [← hZ, ← hpk, ← ha0, ← hM, ← hSL]; rfl
  have hZlt : ∀ x ∈ Z, x.1 < 256 := by rw [← hZE]; exact sunExp_lt M (show 0 < 256 by decide)
  have hZM : Z.length ≤ M := by rw [← hZE]; exact sunExp_len M
  obtain ⟨sh, hsh⟩ : ∃ sh, decide (Z.length < M) = sh := ⟨_, rfl⟩
  have HBS := Lib.hid (fun w => refSunBytes (s := s) (a := a0) (n := M) (pk := pk) hsm (by omega) (by omega) hZE hsh w)
  rw [hZ, hN] at hD
  have HD := Lib.hid hD
  have HF := Lib.hid (And.intro F0 B0)
  have hMI : IntKind.i64.wrap ((ln : Int) * (H : Int)) = (M : Int) := by rw [← Int.natCast_mul, hM]; exact IntWalk.i64_in _ (by omega)
  have HFACT := Lib.hid (And.intro hln (And.intro hM (And.intro hN (And.intro hSL (And.intro hsh hZlt)))))
  clear hR hD hZE hZlt hpk hln hM hSL hZ hsh F0 B0 ha0
  go_enter Tryz.func24, Tryz.ntmps24
  go_upto_region 9 with (first
    | (go_at_call 58; refine (HR.out _).mono ?_; rintro e w1 ⟨rfl, b1⟩; have A1 : RI (w1.alloc (.cells #[.int .i64 (W : Int), .int .i64 (H : Int), .int .i64 ((1 : Nat) : Int), .int .i64 (t : Int), .int .i64 (n : Int), .int .i64 0, .int .i64 0] 93)) w.heap.size 0 0 (.slice none 0 0) 0 0 := Blk.alloc (Blk.below HF.out.1 b1 (Blk.lt HF.out.1)) _; have H1 : Blk (w1.alloc (.cells #[.int .i64 (W : Int), .int .i64 (H : Int), .int .i64 ((1 : Nat) : Int), .int .i64 (t : Int), .int .i64 (n : Int), .int .i64 0, .int .i64 0] 93)) w1.heap.size 93 (hd7 (W : Int) (H : Int) ((1 : Nat) : Int) (t : Int) (n : Int) 0 0) := Blk.new _ _ _; have B1 : Below w.heap.size w (w1.alloc (.cells #[.int .i64 (W : Int), .int .i64 (H : Int), .int .i64 ((1 : Nat) : Int), .int .i64 (t : Int), .int .i64 (n : Int), .int .i64 0, .int .i64 0] 93)) := (below_next HF.out.2 b1).alloc (below_next HF.out.2 b1).size _; have n1 : w.heap.size ≤ w1.heap.size := (below_next HF.out.2 b1).size)
    | (go_at_call 68; refine (HLN.out _).mono ?_; rintro e w2 ⟨rfl, b2⟩; have A2 : RI w2 w.heap.size 0 0 (.slice none 0 0) 0 0 := Blk.below A1 b2 (Blk.lt A1); have H2 := Blk.below H1 b2 (Blk.lt H1); have B2 := below_next B1 b2; have q0 : w2.cell? ⟨w1.heap.size, 0, none⟩ = some (.int .i64 (W : Int)) := Blk.cell H2 0; have q1 : w2.cell? ⟨w1.heap.size, 1, none⟩ = some (.int .i64 (H : Int)) := Blk.cell H2 1; have q3 : w2.cell? ⟨w1.heap.size, 3, none⟩ = some (.int .i64 (t : Int)) := Blk.cell H2 3)
    | (go_at_call 69; refine (HBS.out _).mono ?_; rintro e w3 ⟨vp, rfl, P3, b3⟩; obtain ⟨va, vc, hvp⟩ := P3.sl; rw [zpl_len] at hvp; generalize hzl : Z.length = zl at hvp; subst hvp; have H3 := Blk.below H2 b3 (Blk.lt H2); have q0 : w3.cell? ⟨w1.heap.size, 0, none⟩ = some (.int .i64 (W : Int)) := Blk.cell H3 0; have q1 : w3.cell? ⟨w1.heap.size, 1, none⟩ = some (.int .i64 (H : Int)) := Blk.cell H3 1))
  have B3 := below_next B2 b3
  have A4 : RI (w3.alloc (.cells #[.string (strOf (zb8 Z)), .slice va zl vc, .bool sh] 128)) w.heap.size 0 0 (.slice none 0 0) 0 0 := Blk.alloc (Blk.below A2 b3 (Blk.lt A2)) _
  have H4 : Blk (w3.alloc (.cells #[.string (strOf (zb8 Z)), .slice va zl vc, .bool sh] 128)) w1.heap.size 93 (hd7 (W : Int) (H : Int) ((1 : Nat) : Int) (t : Int) (n : Int) 0 0) := Blk.alloc H3 _
  have X4 : Blk (w3.alloc (.cells #[.string (strOf (zb8 Z)), .slice va zl vc, .bool sh] 128)) w3.heap.size 128 #[.string (strOf (zb8 Z)), .slice va zl vc, .bool sh] := Blk.new _ _ _
  have P4 : Owns1 (w3.alloc (.cells #[.string (strOf (zb8 Z)), .slice va zl vc, .bool sh] 128)) w.heap.size 3 (.slice va zl vc) (zpl Z) := Owns1.alloc (World.ownsRow.mono P3 B2.size) _
  have B4 := B3.alloc B3.size (.cells #[.string (strOf (zb8 Z)), .slice va zl vc, .bool sh] 128)
  have n4 : w.heap.size < (w3.alloc (.cells #[.string (strOf (zb8 Z)), .slice va zl vc, .bool sh] 128)).heap.size := by have := B3.size; simp; omega
  generalize w3.alloc (.cells #[.string (strOf (zb8 Z)), .slice va zl vc, .bool sh] 128) = w4 at A4 H4 X4 P4 B4 n4 ⊢
  generalize w3.heap.size = pb at X4 ⊢
  generalize w1.heap.size = ph at H4 ⊢
  clear A1 H1 B1 n1 A2 H2 B2 q0 q1 q3 P3 b1 b2 b3 H3 B3
  have q0 : w4.cell? ⟨ph, 0, none⟩ = some (.int .i64 (W : Int)) := Blk.cell H4 0
  have q1 : w4.cell? ⟨ph, 1, none⟩ = some (.int .i64 (H : Int)) := Blk.cell H4 1
  go_upto_region 10 with fail
  have I0 : SdI w (w4.alloc (.cells #[.int .i64 (W : Int), .int .i64 (H : Int), .slice none 0 0, .int .i64 0, .int .i64 0] 42)) ph pb w4.heap.size W H 1 t n (strOf (zb8 Z)) (.slice va zl vc) (zpl Z) sh (.slice none 0 0) [] :=
    ⟨Blk.alloc A4 _, Blk.alloc H4 _, Blk.alloc X4 _, Blk.new _ _ _, Owns1.alloc P4 _, World.ownsRow_nil _ _ _ _, B4.alloc B4.size _, n4⟩
  generalize w4.alloc (.cells #[.int .i64 (W : Int), .int .i64 (H : Int), .slice none 0 0, .int .i64 0, .int .i64 0] 42) = w5 at I0 ⊢
  generalize w4.heap.size = po at I0 ⊢
  obtain ⟨zs, hzs⟩ : ∃ z, strOf (zb8 Z) = z := ⟨_, rfl⟩
  have hzsz : zs.size = zl := by rw [← hzs, strOf_size, zb8_len, hzl]
  rw [hzs] at I0
  have HI0 := Lib.hid I0
  have HZS := Lib.hid (And.intro hzs hzl)
  have hzszI : (zs.size : Int) = (zl : Int) := by omega
  have hWH : IntKind.i64.wrap ((W : Int) * (H : Int)) = (N : Int) := by rw [← Int.natCast_mul, HFACT.out.2.2.1]; exact IntWalk.i64_in _ (by omega)
  have hzlM : zl ≤ M := by rw [← hzl]; exact hZM
  clear I0 q0 q1 A4 H4 X4 P4 B4 n4 hzs hzl HBS HLN HR HF hpkI hMI hZM
  go_wp2_with fail
  go_loopg [8, 9, 10, 11, 12, 13] N (fun gh v8 v9 v10 v11 v12 v13 wr => ∃ (k : Nat) (v : Value) (L : List Qc), k + gh = N ∧ v8 = .int .i64 (k : Int) ∧ L.length = k ∧ Hid (sunPix2 s ⟨W, H, 1, t, n⟩ Z gh k L = D) ∧ Hid (SdI w wr ph pb po W H 1 t n zs (.slice va zl vc) (zpl Z) sh v L))
  case atStart => exact ⟨0, _, [], by omega, rfl, rfl, HD, HI0⟩
  case round =>
    obtain ⟨k, v, L, hk, rfl, hL, HRUN, HI⟩ := hrel
    clear HI0 HD
    obtain ⟨h0, h1, h2, h3, h4, h5, h6, y0, y1, y2⟩ := HI.out.heads
    have HL := Lib.hid hL
    clear hL
    by_cases hkN : k < N
    · have hkI : (k : Int) < (N : Int) := by omega
      obtain ⟨m, rfl⟩ : ∃ m, gk = m + 1 := ⟨gk - 1, by omega⟩
      have hW0 : ¬ (W : Int) = 0 := by omega
      obtain ⟨x, hx⟩ : ∃ x, k % W = x := ⟨_, rfl⟩
      have hxI : (k : Int) % (W : Int) = (x : Int) := by rw [← Int.natCast_emod, hx]
      have hxW : x < W := by rw [← hx]; exact Nat.mod_lt _ (by omega)
      obtain ⟨y, hy⟩ : ∃ y, k / W = y := ⟨_, rfl⟩
      have hyI : (k : Int) / (W : Int) = (y : Int) := by rw [← Int.natCast_ediv, hy]
      have hyH : y < H := by rw [← hy]; exact Nat.div_lt_of_lt_mul (by rw [HFACT.out.2.2.1]; exact hkN)
      obtain ⟨yl, hyl⟩ : ∃ q, y * ln = q := ⟨_, rfl⟩
      have hylB : yl ≤ 16384 * 65536 := by rw [← hyl]; exact Nat.mul_le_mul (by omega) hlnB
      have hylI : IntKind.i64.wrap ((y : Int) * (ln : Int)) = (yl : Int) := by rw [← Int.natCast_mul, hyl]; exact IntWalk.i64_in _ (by omega)
      obtain ⟨q, hq⟩ : ∃ q, x * 1 / 8 = q := ⟨_, rfl⟩
      have hqI : (x : Int) / 8 = (q : Int) := by omega
      have hqB : q ≤ 65536 := by omega
      obtain ⟨a, ha⟩ : ∃ a, yl + q = a := ⟨_, rfl⟩
      have haI : (yl : Int) + (q : Int) = (a : Int) := by omega
      obtain ⟨a2, ha2⟩ : ∃ q, a + 1 = q := ⟨_, rfl⟩
      have ha2I : (a : Int) + 1 = (a2 : Int) := by omega
      have hpl : sunPlace ⟨W, H, 1, t, n⟩ k = a := by
        show k / W * sunLine ⟨W, H, 1, t, n⟩ + k % W * 1 / 8 = a
        rw [HFACT.out.2.2.2.1, hx, hy, hyl, hq, ha]
      have hsz : sunSize ⟨W, H, 1, t, n⟩ = 1 := by simp [sunSize]
      have hrun := HRUN.out
      rw [sunPix2, hpl, hsz, ha2, HZS.out.2] at hrun
      rw [show k % (⟨W, H, 1, t, n⟩ : SunHd).W = x from hx] at hrun
      have HFA := Lib.hid (And.intro hpl hsz)
      have hkB : (k : Int) ≤ 268435456 := by omega
      have haB : (a : Int) ≤ 1073807360 := by omega
      clear HRUN hx hy hyl hq hpl hsz
      go_upto_region 14 with fail
      rw [hxI]
      go_cut [84] from 54 to 143 (fun c wx => ∃ j, c = .bool (decide (x = 0 ∧ 0 < k ∧ zl < yl)) ∧ wx = wr.drewN j)
      case first =>
        by_cases hx0 : x = 0
        · have hx0I : (x : Int) = 0 := by omega
          have hx0B : ((x : Int) == 0) = true := by rw [beq_iff_eq]; exact hx0I
          by_cases hk0 : k = 0
          · have hk0B : decide ((0 : Int) < (k : Int)) = false := decide_eq_false (by omega)
            have hk0C : decide (0 < k) = false := decide_eq_false (by omega)
            have hdec := Lib.hid (decide_eq_false (p := x = 0 ∧ 0 < k ∧ zl < yl) (by omega))
            clear hk0 hx0 hx0I
            go_quiet (fail)
            go_wp2_with fail
            go_meet
            case rel => exact ⟨_, congrArg Value.bool hdec.out.symm, rfl⟩
          · have hk0I : (0 : Int) < (k : Int) := by omega
            have hk0N : 0 < k := by omega
            by_cases hzy : zl < yl
            · have hzyI : (zl : Int) < (yl : Int) := by omega
              have hdec := Lib.hid (decide_eq_true (p := x = 0 ∧ 0 < k ∧ zl < yl) (by omega))
              clear hx0 hx0I
              go_quiet (fail)
              go_wp2_with fail
              go_meet
              case rel => exact ⟨_, congrArg Value.bool hdec.out.symm, rfl⟩
            · have hzyI : ¬ (zl : Int) < (yl : Int) := by omega
              have hdec := Lib.hid (decide_eq_false (p := x = 0 ∧ 0 < k ∧ zl < yl) (by omega))
              clear hx0 hx0I
              go_quiet (fail)
              go_wp2_with fail
              go_meet
              case rel => exact ⟨_, congrArg Value.bool hdec.out.symm, rfl⟩
        · have hx0B : ((x : Int) == 0) = false := by rw [beq_eq_false_iff_ne]; omega
          have hdec := Lib.hid (decide_eq_false (p := x = 0 ∧ 0 < k ∧ zl < yl) (by omega))
          go_quiet (fail)
          go_wp2_with fail
          go_meet
          case rel => exact ⟨_, congrArg Value.bool hdec.out.symm, rfl⟩
      case rest =>
        obtain ⟨j, rfl, rfl⟩ := hcut
        by_cases hE : x = 0 ∧ 0 < k ∧ zl < yl
        · rw [if_pos (by omega)] at hrun
          rw [decide_eq_true hE]
          have HRUN := Lib.hid hrun
          clear hrun hE
          go_wp2_with (go_at_call 67; refine (refBadC 1 _ _).mono ?_; rintro e wb ⟨rfl, bb⟩; have IB := (HI.out.drewN _).below bb; obtain ⟨x0, x1, x2, x3, x4, zx0, zx1, zx2, zx3, zx4, xl⟩ := RI.all IB.A)
          exact bodyPost_ret (v := .agg #[.int .i64 0, .int .i64 0, .slice none 0 0, .int .i64 1, .int .i64 (s.size : Int)]) (by simp [results, Tryz.results24, go_sem, x0, x1, x2, x3, x4]) rfl (by rw [show D = DRes.bad 1 s.size from HRUN.out.symm]; exact ⟨Below.st5 IB.B (Nat.le_refl _), rfl⟩)
        · rw [decide_eq_false hE]
          clear hE
          by_cases hz2 : zl < a2
          · have hz2I : (zl : Int) < (a2 : Int) := by omega
            rw [if_pos hz2] at hrun
            have HRUN := Lib.hid hrun
            clear hrun
            go_wp2_with fail
            go_quiet (fail)
            go_wp2_with (go_at_call 67; refine (refBadC 1 _ _).mono ?_; rintro e wb ⟨rfl, bb⟩; have IB := (HI.out.drewN _).below bb; obtain ⟨x0, x1, x2, x3, x4, zx0, zx1, zx2, zx3, zx4, xl⟩ := RI.all IB.A)
            exact bodyPost_ret (v := .agg #[.int .i64 0, .int .i64 0, .slice none 0 0, .int .i64 1, .int .i64 (s.size : Int)]) (by simp [results, Tryz.results24, go_sem, x0, x1, x2, x3, x4]) rfl (by rw [show D = DRes.bad 1 s.size from HRUN.out.symm]; exact ⟨Below.st5 IB.B (Nat.le_refl _), rfl⟩)
          · have hz2I : ¬ (zl : Int) < (a2 : Int) := by omega
            rw [if_neg hz2] at hrun
            have hbs : (zs.extract a a2).size = sunSize ⟨W, H, 1, t, n⟩ := by rw [ByteArray.size_extract, HFA.out.2]; omega
            have HPX0 := fun w => refSunPixel (s := s) (b := zs.extract a a2) (W := W) (H := H) (d := 1) (t := t) (n := n) (x := x) (.inl rfl) hbs hsm hn hs w
            have hcol : sunColB s ⟨W, H, 1, t, n⟩ (zs.extract a a2) x = sunColAt s ⟨W, H, 1, t, n⟩ Z a x := by
              have := sunColB_at (s := s) (h := ⟨W, H, 1, t, n⟩) (Z := Z) (a := a) (x := x) (.inl rfl) HFACT.out.2.2.2.2.2 (by rw [HFA.out.2, HZS.out.2]; omega)
              rw [HFA.out.2, ha2, HZS.out.1] at this
              exact this
            rw [hcol] at HPX0
            generalize sunColAt s ⟨W, H, 1, t, n⟩ Z a x = oc at HPX0 hrun
            have haz : (a : Int) < (zl : Int) := by omega
            have haN : a < zl := by omega
            have hcut1 : (a : Int) ≤ (a2 : Int) := by omega
            have hcut2 : (a2 : Int) ≤ (zl : Int) := by omega
            unfold hdV hd7 at HPX0
            obtain ⟨qc, hqc⟩ : ∃ q, oc.getD ⟨0, 0, 0, 0⟩ = q := ⟨_, rfl⟩
            obtain ⟨qb, hqb⟩ : ∃ q, oc.isSome = q := ⟨_, rfl⟩
            rw [hqc, hqb] at HPX0
            unfold Qc.v at HPX0
            have HPX := Lib.hid HPX0
            have HQQ := Lib.hid (And.intro hqc hqb)
            have HRUN := Lib.hid hrun
            clear hrun HPX0 hqc hqb hbs hcol ha2
            go_wp2_with fail
            go_quiet (fail)
            go_upto_region 22 with fail
            go_cut [12, 13] from 54 to 143 (fun c12 c13 wx => ∃ cb, c12 = .pointer (some ⟨cb, 0, none⟩) ∧ c13 = .bool qb ∧ Hid (SdI w wx ph pb po W H 1 t n zs (.slice va zl vc) (zpl Z) sh v L ∧ Blk wx cb 131 #[.int .u8 (qc.r.toNat : Int), .int .u8 (qc.g.toNat : Int), .int .u8 (qc.b.toNat : Int), .int .u8 (qc.a.toNat : Int)]))
            case first =>
              clear hylI hWH hqI haI
              have hwa : IntKind.i64.wrap (a2 : Int) = (a2 : Int) := IntWalk.i64_in _ (by omega)
              have ha2z : a2 ≤ zl := by omega
              have haa2 : a ≤ a2 := by omega
              refine wp_gen (S := fun wx => SdI w wx ph pb po W H 1 t n zs (.slice va zl vc) (zpl Z) sh v L) (by exact (HI.out.drewN _)) (fun wx hX => ?_)
              have HX := Lib.hid hX
              clear hX
              refine wp_region_held_drew (S := (SdS ph pb W H 1 t n zs)) (by kernel_rfl) HX.out.drew.sds (fun hHeld => ?_)
              refine wpAnyH_take (i := 0) (v := ?_) rfl (by kernel_rfl) (by kernel_rfl) (by kernel_rfl) (fun _ _ _ h => h) (Or.inl ⟨by kernel_rfl, ?_⟩) (by assumption) ?_
              rotate_left
              · intro w hSw; obtain ⟨s0, s1, s2, s3, s4, s5, s6, s7⟩ := hSw; go_simp; (try with_reducible rfl)
              (try simp only [Act.put, List.setIfInBounds_toArray, List.set_cons_zero, List.set_cons_succ])
              refine wpAnyH_take (i := 1) (v := ?_) rfl (by kernel_rfl) (by kernel_rfl) (by kernel_rfl) (fun _ _ _ h => h) (Or.inl ⟨by kernel_rfl, ?_⟩) (by assumption) ?_
              rotate_left
              · intro w hSw; obtain ⟨s0, s1, s2, s3, s4, s5, s6, s7⟩ := hSw; go_simp; (try with_reducible rfl)
              (try simp only [Act.put, List.setIfInBounds_toArray, List.set_cons_zero, List.set_cons_succ])
              refine wpAnyH_take (i := 2) (v := ?_) rfl (by kernel_rfl) (by kernel_rfl) (by kernel_rfl) (fun _ _ _ h => h) (Or.inl ⟨by kernel_rfl, ?_⟩) (by assumption) ?_
              rotate_left
              · intro w hSw; obtain ⟨s0, s1, s2, s3, s4, s5, s6, s7⟩ := hSw; go_simp; (try with_reducible rfl)
              (try simp only [Act.put, List.setIfInBounds_toArray, List.set_cons_zero, List.set_cons_succ])
              refine wpAnyH_take (i := 3) (v := ?_) rfl (by kernel_rfl) (by kernel_rfl) (by kernel_rfl) (fun _ _ _ h => h) (Or.inl ⟨by kernel_rfl, ?_⟩) (by assumption) ?_
              rotate_left
              · intro w hSw; obtain ⟨s0, s1, s2, s3, s4, s5, s6, s7⟩ := hSw; go_simp; (try with_reducible rfl)
              (try simp only [Act.put, List.setIfInBounds_toArray, List.set_cons_zero, List.set_cons_succ])
              refine wpAnyH_take (i := 4) (v := ?_) rfl (by kernel_rfl) (by kernel_rfl) (by kernel_rfl) (fun _ _ _ h => h) (Or.inl ⟨by kernel_rfl, ?_⟩) (by assumption) ?_
              rotate_left
              · intro w hSw; obtain ⟨s0, s1, s2, s3, s4, s5, s6, s7⟩ := hSw; go_simp; (try with_reducible rfl)
              (try simp only [Act.put, List.setIfInBounds_toArray, List.set_cons_zero, List.set_cons_succ])
              refine wpAnyH_take (i := 5) (v := ?_) rfl (by kernel_rfl) (by kernel_rfl) (by kernel_rfl) (fun _ _ _ h => h) (Or.inl ⟨by kernel_rfl, ?_⟩) (by assumption) ?_
              rotate_left
              · intro w hSw; obtain ⟨s0, s1, s2, s3, s4, s5, s6, s7⟩ := hSw; go_simp; (try with_reducible rfl)
              (try simp only [Act.put, List.setIfInBounds_toArray, List.set_cons_zero, List.set_cons_succ])
              refine wpAnyH_take (i := 6) (v := ?_) rfl (by kernel_rfl) (by kernel_rfl) (by kernel_rfl) (fun _ _ _ h => h) (Or.inl ⟨by kernel_rfl, ?_⟩) (by assumption) ?_
              rotate_left
              · intro w hSw; obtain ⟨s0, s1, s2, s3, s4, s5, s6, s7⟩ := hSw; go_simp; (try with_reducible rfl)
              (try simp only [Act.put, List.setIfInBounds_toArray, List.set_cons_zero, List.set_cons_succ])
              refine wpAnyH_take (i := 7) (v := ?_) rfl (by kernel_rfl) (by kernel_rfl) (by kernel_rfl) (fun _ _ _ h => h) (Or.inl ⟨by kernel_rfl, ?_⟩) (by assumption) ?_
              rotate_left
              · intro w hSw; obtain ⟨s0, s1, s2, s3, s4, s5, s6, s7⟩ := hSw; go_simp; (try with_reducible rfl)
              (try simp only [Act.put, List.setIfInBounds_toArray, List.set_cons_zero, List.set_cons_succ])
              refine wpAnyH_take (i := 8) (v := ?_) rfl (by kernel_rfl) (by kernel_rfl) (by kernel_rfl) (fun _ _ _ h => h) (Or.inl ⟨by kernel_rfl, ?_⟩) (by assumption) ?_
              rotate_left
              · intro w hSw; obtain ⟨s0, s1, s2, s3, s4, s5, s6, s7⟩ := hSw; go_simp; (try with_reducible rfl)
              (try simp only [Act.put, List.setIfInBounds_toArray, List.set_cons_zero, List.set_cons_succ])
              refine wpAnyH_take (i := 9) (v := ?_) rfl (by kernel_rfl) (by kernel_rfl) (by kernel_rfl) (fun _ _ _ h => h) (Or.inl ⟨by kernel_rfl, ?_⟩) (by assumption) ?_
              rotate_left
              · intro w hSw; obtain ⟨s0, s1, s2, s3, s4, s5, s6, s7⟩ := hSw; go_simp; (try with_reducible rfl)
              (try simp only [Act.put, List.setIfInBounds_toArray, List.set_cons_zero, List.set_cons_succ])
              refine wpAnyH_ready (rs := [10, 14]) (by kernel_rfl) (by simp) ?_
              refine AllReadyH.cons rfl (fun K hK => ?_) (AllReadyH.cons rfl (fun K hK => ?_) AllReadyH.nil)
              · go_simp
                refine (HPX.out _).mono ?_
                rintro e w8 ⟨rfl, b8⟩
                have I8 := HX.out.drew.below b8
                refine hK.out _ _ I8.sds (fun hHeld' => ?_)
                clear hK K hHeld
                have hHeld := hHeld'
                clear hHeld'
                (try simp only [Act.put, List.setIfInBounds_toArray, List.set_cons_zero, List.set_cons_succ])
                refine wpAnyH_take (i := 11) (v := ?_) rfl (by kernel_rfl) (by kernel_rfl) (by kernel_rfl) (fun _ _ _ h => h) (Or.inl ⟨by kernel_rfl, ?_⟩) (by assumption) ?_
                rotate_left
                · intro w hSw; obtain ⟨s0, s1, s2, s3, s4, s5, s6, s7⟩ := hSw; go_simp; (try with_reducible rfl)
                (try simp only [Act.put, List.setIfInBounds_toArray, List.set_cons_zero, List.set_cons_succ])
                refine wpAnyH_take (i := 12) (v := ?_) rfl (by kernel_rfl) (by kernel_rfl) (by kernel_rfl) (fun _ _ _ h => h) (Or.inl ⟨by kernel_rfl, ?_⟩) (by assumption) ?_
                rotate_left
                · intro w hSw; obtain ⟨s0, s1, s2, s3, s4, s5, s6, s7⟩ := hSw; go_simp; (try with_reducible rfl)
                (try simp only [Act.put, List.setIfInBounds_toArray, List.set_cons_zero, List.set_cons_succ])
                refine wpAnyH_take (i := 13) (v := ?_) rfl (by kernel_rfl) (by kernel_rfl) (by kernel_rfl) (fun _ _ _ h => h) (Or.inl ⟨by kernel_rfl, ?_⟩) (by assumption) ?_
                rotate_left
                · intro w hSw; obtain ⟨s0, s1, s2, s3, s4, s5, s6, s7⟩ := hSw; go_simp; (try with_reducible rfl)
                (try simp only [Act.put, List.setIfInBounds_toArray, List.set_cons_zero, List.set_cons_succ])
                refine wpAnyH_ready (rs := [14]) (by kernel_rfl) (by simp) ?_
                refine AllReadyH.cons rfl (fun K hK => ?_) AllReadyH.nil
                go_simp
                have n9 := b8.size
                have b9 := b8.alloc b8.size (.cells #[.int .u8 0, .int .u8 0, .int .u8 0, .int .u8 0] 131)
                have I9 := I8.alloc (.cells #[.int .u8 0, .int .u8 0, .int .u8 0, .int .u8 0] 131)
                have C9 : Blk (w8.alloc (.cells #[.int .u8 0, .int .u8 0, .int .u8 0, .int .u8 0] 131)) w8.heap.size 131 #[.int .u8 0, .int .u8 0, .int .u8 0, .int .u8 0] := Blk.new _ _ _
                generalize w8.alloc (.cells #[.int .u8 0, .int .u8 0, .int .u8 0, .int .u8 0] 131) = w9 at b9 I9 C9 ⊢
                generalize w8.heap.size = cb at n9 C9 ⊢
                obtain ⟨l0, l1, l2, l3, z0, z1, z2, z3, ll⟩ := col4_all C9
                refine hK.out _ _ I9.sds (fun hHeld' => ?_)
                clear hK K hHeld
                have hHeld := hHeld'
                clear hHeld'
                (try simp only [Act.put, List.setIfInBounds_toArray, List.set_cons_zero, List.set_cons_succ])
                refine wpAnyH_ready (rs := [15]) (by kernel_rfl) (by simp) ?_
                refine AllReadyH.cons rfl (fun K hK => ?_) AllReadyH.nil
                go_simp
                have IF := SdI.lay4 (cb := cb) (u0 := .int .u8 (qc.r.toNat : Int)) (u1 := .int .u8 (qc.g.toNat : Int)) (u2 := .int .u8 (qc.b.toNat : Int)) (u3 := .int .u8 (qc.a.toNat : Int)) HX.out.drew b9 n9
                have CF := col4 (u0 := .int .u8 (qc.r.toNat : Int)) (u1 := .int .u8 (qc.g.toNat : Int)) (u2 := .int .u8 (qc.b.toNat : Int)) (u3 := .int .u8 (qc.a.toNat : Int)) C9
                refine hK.out _ _ IF.sds (fun hHeld' => ?_)
                clear hK K hHeld
                have hHeld := hHeld'
                clear hHeld'
                (try simp only [Act.put, List.setIfInBounds_toArray, List.set_cons_zero, List.set_cons_succ])
                refine wpAnyH_take (i := 16) (v := ?_) rfl (by kernel_rfl) (by kernel_rfl) (by kernel_rfl) (fun _ _ _ h => h) (Or.inl ⟨by kernel_rfl, ?_⟩) (by assumption) ?_
                rotate_left
                · intro w hSw; obtain ⟨s0, s1, s2, s3, s4, s5, s6, s7⟩ := hSw; go_simp; (try with_reducible rfl)
                (try simp only [Act.put, List.setIfInBounds_toArray, List.set_cons_zero, List.set_cons_succ])
                refine wpAnyH_done (by kernel_rfl) ?_ _
                (try simp only [List.getElem_toArray, List.getElem_cons_succ, List.getElem_cons_zero, List.set_cons_zero, List.set_cons_succ])
                go_wp2_with fail
                go_meet
                case rel => exact ⟨cb, rfl, rfl, Lib.hid ⟨IF, CF⟩⟩
              · go_simp
                have b7 : Below wx.heap.size wx (wx.alloc (.cells #[.int .u8 0, .int .u8 0, .int .u8 0, .int .u8 0] 131)).drew := ((Below.refl wx.heap.size wx).alloc (Nat.le_refl _) _).drew
                have C7 : Blk (wx.alloc (.cells #[.int .u8 0, .int .u8 0, .int .u8 0, .int .u8 0] 131)).drew wx.heap.size 131 #[.int .u8 0, .int .u8 0, .int .u8 0, .int .u8 0] := Blk.drew (Blk.new wx _ _)
                generalize (wx.alloc (.cells #[.int .u8 0, .int .u8 0, .int .u8 0, .int .u8 0] 131)).drew = w7 at b7 C7 ⊢
                generalize hcb : wx.heap.size = cb at C7 ⊢
                have n9 := Nat.le_of_eq hcb
                have I7 := HX.out.below b7
                refine hK.out _ _ I7.sds (fun hHeld' => ?_)
                clear hK K hHeld
                have hHeld := hHeld'
                clear hHeld'
                (try simp only [Act.put, List.setIfInBounds_toArray, List.set_cons_zero, List.set_cons_succ])
                refine wpAnyH_ready (rs := [10]) (by kernel_rfl) (by simp) ?_
                refine AllReadyH.cons rfl (fun K hK => ?_) AllReadyH.nil
                go_simp
                refine (HPX.out _).mono ?_
                rintro e w8 ⟨rfl, b8⟩
                have I8 := I7.below b8
                have C9 := Blk.below C7 b8 (Blk.lt C7)
                have b9 : Below wx.heap.size wx w8 := b7.trans (b8.mono b7.size)
                obtain ⟨l0, l1, l2, l3, z0, z1, z2, z3, ll⟩ := col4_all C9
                refine hK.out _ _ I8.sds (fun hHeld' => ?_)
                clear hK K hHeld
                have hHeld := hHeld'
                clear hHeld'
                (try simp only [Act.put, List.setIfInBounds_toArray, List.set_cons_zero, List.set_cons_succ])
                refine wpAnyH_take (i := 11) (v := ?_) rfl (by kernel_rfl) (by kernel_rfl) (by kernel_rfl) (fun _ _ _ h => h) (Or.inl ⟨by kernel_rfl, ?_⟩) (by assumption) ?_
                rotate_left
                · intro w hSw; obtain ⟨s0, s1, s2, s3, s4, s5, s6, s7⟩ := hSw; go_simp; (try with_reducible rfl)
                (try simp only [Act.put, List.setIfInBounds_toArray, List.set_cons_zero, List.set_cons_succ])
                refine wpAnyH_take (i := 12) (v := ?_) rfl (by kernel_rfl) (by kernel_rfl) (by kernel_rfl) (fun _ _ _ h => h) (Or.inl ⟨by kernel_rfl, ?_⟩) (by assumption) ?_
                rotate_left
                · intro w hSw; obtain ⟨s0, s1, s2, s3, s4, s5, s6, s7⟩ := hSw; go_simp; (try with_reducible rfl)
                (try simp only [Act.put, List.setIfInBounds_toArray, List.set_cons_zero, List.set_cons_succ])
                refine wpAnyH_take (i := 13) (v := ?_) rfl (by kernel_rfl) (by kernel_rfl) (by kernel_rfl) (fun _ _ _ h => h) (Or.inl ⟨by kernel_rfl, ?_⟩) (by assumption) ?_
                rotate_left
                · intro w hSw; obtain ⟨s0, s1, s2, s3, s4, s5, s6, s7⟩ := hSw; go_simp; (try with_reducible rfl)
                (try simp only [Act.put, List.setIfInBounds_toArray, List.set_cons_zero, List.set_cons_succ])
                refine wpAnyH_ready (rs := [15]) (by kernel_rfl) (by simp) ?_
                refine AllReadyH.cons rfl (fun K hK => ?_) AllReadyH.nil
                go_simp
                have IF := SdI.lay4 (cb := cb) (u0 := .int .u8 (qc.r.toNat : Int)) (u1 := .int .u8 (qc.g.toNat : Int)) (u2 := .int .u8 (qc.b.toNat : Int)) (u3 := .int .u8 (qc.a.toNat : Int)) HX.out b9 n9
                have CF := col4 (u0 := .int .u8 (qc.r.toNat : Int)) (u1 := .int .u8 (qc.g.toNat : Int)) (u2 := .int .u8 (qc.b.toNat : Int)) (u3 := .int .u8 (qc.a.toNat : Int)) C9
                refine hK.out _ _ IF.sds (fun hHeld' => ?_)
                clear hK K hHeld
                have hHeld := hHeld'
                clear hHeld'
                (try simp only [Act.put, List.setIfInBounds_toArray, List.set_cons_zero, List.set_cons_succ])
                refine wpAnyH_take (i := 16) (v := ?_) rfl (by kernel_rfl) (by kernel_rfl) (by kernel_rfl) (fun _ _ _ h => h) (Or.inl ⟨by kernel_rfl, ?_⟩) (by assumption) ?_
                rotate_left
                · intro w hSw; obtain ⟨s0, s1, s2, s3, s4, s5, s6, s7⟩ := hSw; go_simp; (try with_reducible rfl)
                (try simp only [Act.put, List.setIfInBounds_toArray, List.set_cons_zero, List.set_cons_succ])
                refine wpAnyH_done (by kernel_rfl) ?_ _
                (try simp only [List.getElem_toArray, List.getElem_cons_succ, List.getElem_cons_zero, List.set_cons_zero, List.set_cons_succ])
                go_wp2_with fail
                go_meet
                case rel => exact ⟨cb, rfl, rfl, Lib.hid ⟨IF, CF⟩⟩
            case rest =>
              obtain ⟨cb, rfl, rfl, HJ⟩ := hcut
              clear hylI hWH hqI haI h0 h1 h2 h3 h4 y0 y1 y2 HPX
              obtain ⟨hqc, hqb⟩ := HQQ.out
              cases oc with
              | none =>
                obtain rfl : qb = false := hqb.symm
                obtain ⟨gp, hva⟩ : ∃ g, va = some ⟨g, 0, none⟩ := by
                  rcases HJ.out.1.P.form with ⟨e, _⟩ | ⟨g, cap, e, _⟩
                  · injection e with e1 e2 e3; omega
                  · injection e with e1 e2 e3; exact ⟨g, e1⟩
                subst hva
                have hplace : wc.cell? ⟨gp, a, none⟩ = some (.int .i64 (zp Z a : Int)) := by
                  rcases HJ.out.1.P.form with ⟨e, _⟩ | ⟨g, cap, e, _, _, _, _, hc⟩
                  · cases e
                  · injection e with e1 e2 e3
                    injection e1 with e1
                    injection e1 with e1
                    subst e1
                    have hl : a < Z.length := by rw [HZS.out.2]; exact haN
                    rw [hc a (by rw [zpl_len]; exact hl)]
                    unfold zpl zp
                    rw [List.getElem?_map, List.getElem?_eq_getElem hl, List.getD_eq_getElem?_getD, List.getElem?_eq_getElem hl]
                    rfl
                obtain ⟨pz, hpz⟩ : ∃ p, zp Z a = p := ⟨_, rfl⟩
                have hrun := HRUN.out
                simp only at hrun
                rw [hpz] at hplace hrun
                have HR2 := Lib.hid hrun
                have y1 : wc.cell? ⟨pb, 1, none⟩ = some (.slice (some ⟨gp, 0, none⟩) zl vc) := HJ.out.1.heads.2.2.2.2.2.2.2.2.1
                clear hrun hpz HRUN HQQ
                go_wp2_with (go_at_call 67; refine (refBadC 2 _ _).mono ?_; rintro e wb ⟨rfl, bb⟩; have IB := HJ.out.1.below bb; obtain ⟨x0, x1, x2, x3, x4, zx0, zx1, zx2, zx3, zx4, xl⟩ := RI.all IB.A)
                exact bodyPost_ret (v := .agg #[.int .i64 0, .int .i64 0, .slice none 0 0, .int .i64 2, .int .i64 (pz : Int)]) (by simp [results, Tryz.results24, go_sem, x0, x1, x2, x3, x4]) rfl (by rw [show D = DRes.bad 2 pz from HR2.out.symm]; exact ⟨Below.st5 IB.B (Nat.le_refl _), rfl⟩)
              | some c =>
                obtain rfl : qb = true := hqb.symm
                obtain rfl : c = qc := hqc
                have hrun := HRUN.out
                simp only at hrun
                have HR2 := Lib.hid hrun
                obtain ⟨l0, l1, l2, l3, z0, z1, z2, z3, ll⟩ := col4_all HJ.out.2
                obtain ⟨X0, X1, X2, X3, X4, zX0, zX1, zX2, zX3, zX4, Xl⟩ := RI.all HJ.out.1.X
                have hll : L.length + ([c] : List Qc).length < 1099511627776 := by rw [HL.out]; simp; omega
                have hbz : w.heap.size ≤ (wc.alloc (.cells #[.int .u8 (c.r.toNat : Int), .int .u8 (c.g.toNat : Int), .int .u8 (c.b.toNat : Int), .int .u8 (c.a.toNat : Int)] 131)).heap.size := by have := HJ.out.1.B.size; simp; omega
                clear hrun HRUN HQQ
                go_wp2_with (at_builtin; refine wpList_append_cols rfl (.tmp 139) (.tmp 141) rfl w.heap.size v L rfl (HJ.out.1.O.alloc _) wc.heap.size 1 1 [c] rfl rfl (q_new wc c) hll hbz ?_; intro v6 w6 o6 b6 g6; have IG := SdI.grow (HJ.out.1.alloc _) o6 b6 g6; have X6 : RI w6 po (W : Int) (H : Int) v 0 0 := Blk.grownQ (Blk.alloc HJ.out.1.X _) (HJ.out.1.O.alloc _) (by decide) g6; obtain ⟨a6, c6, hv6⟩ := o6.slice; generalize hn6 : (L ++ [c]).length = n6 at hv6; subst hv6; clear X0 X1 X2 X3 X4 zX0 zX1 zX2 zX3 zX4 Xl l0 l1 l2 l3 z0 z1 z2 z3 ll; obtain ⟨X0, X1, X2, X3, X4, zX0, zX1, zX2, zX3, zX4, Xl⟩ := RI.all X6)
                have HG := Lib.hid IG
                have HN6 := Lib.hid hn6
                clear IG X6 o6 b6 g6 X0 X1 X2 X3 X4 zX0 zX1 zX2 zX3 zX4 Xl hn6 hll hbz
                go_roundg m
                case measure => omega
                case rel => exact ⟨k + 1, _, L ++ [c], by omega, by go_num, by rw [List.length_append, HL.out]; rfl, HR2, HG⟩
    · obtain rfl : k = N := by omega
      obtain rfl : gk = 0 := by omega
      have hkI : ¬ (k : Int) < (k : Int) := by omega
      have hrun := HRUN.out
      rw [sunPix2] at hrun
      have hM : sunLine ⟨W, H, 1, t, n⟩ * (⟨W, H, 1, t, n⟩ : SunHd).H = M := by rw [HFACT.out.2.2.2.1]; exact HFACT.out.2.1
      rw [hM] at hrun
      have hsh := HFACT.out.2.2.2.2.1
      by_cases hz : Z.length < M
      · rw [if_pos hz] at hrun
        rw [decide_eq_true hz] at hsh
        subst hsh
        have HR2 := Lib.hid hrun
        clear hrun HRUN hM hz
        go_wp2_with (go_at_call 67; refine (refBadC 1 _ _).mono ?_; rintro e wb ⟨rfl, bb⟩; have IB := HI.out.below bb; obtain ⟨x0, x1, x2, x3, x4, zx0, zx1, zx2, zx3, zx4, xl⟩ := RI.all IB.A)
        exact bodyPost_ret (v := .agg #[.int .i64 0, .int .i64 0, .slice none 0 0, .int .i64 1, .int .i64 (s.size : Int)]) (by simp [results, Tryz.results24, go_sem, x0, x1, x2, x3, x4]) rfl (by rw [show D = DRes.bad 1 s.size from HR2.out.symm]; exact ⟨Below.st5 IB.B (Nat.le_refl _), rfl⟩)
      · rw [if_neg hz] at hrun
        rw [decide_eq_false hz] at hsh
        subst hsh
        have HR2 := Lib.hid hrun
        obtain ⟨va', vc', hv⟩ := HI.out.O.slice
        generalize L.length = ll at hv
        subst hv
        obtain ⟨x0, x1, x2, x3, x4, zx0, zx1, zx2, zx3, zx4, xl⟩ := RI.all HI.out.A
        obtain ⟨X0, X1, X2, X3, X4, zX0, zX1, zX2, zX3, zX4, Xl⟩ := RI.all HI.out.X
        have HNN := HFACT.out.2.2.1
        clear hrun HRUN hM hz
        go_wp2_with fail
        exact bodyPost_ret (v := .agg #[.int .i64 (W : Int), .int .i64 (H : Int), .slice va' ll vc', .int .i64 0, .int .i64 0]) (by simp [results, Tryz.results24, go_sem, x0, x1, x2, x3, x4]) rfl (by rw [show D = DRes.img W H (flat L) from HR2.out.symm]; exact ⟨HI.out.outs.1, _, L, rfl, HI.out.outs.2, rfl, by rw [HL.out, HNN]⟩)
set_option maxRecDepth 100000 in
set_option maxHeartbeats 8000000 in
theorem refSunDec8 {s : ByteArray} {W H t n : Nat} {D : DRes} (hsm : s.size ≤ 1099511627776) (hs : 32 + 3 * n ≤ s.size) (hW : 1 ≤ W ∧ W ≤ 16384) (hH : 1 ≤ H ∧ H ≤ 16384) (hn : n ≤ 256) (hR : sunRdV s = hdV (W : Int) (H : Int) ((8 : Nat) : Int) (t : Int) (n : Int) 0 0)
    (hD : sunPix2 s ⟨W, H, 8, t, n⟩ (sunZ s ⟨W, H, 8, t, n⟩) (W * H) 0 [] = D) (w : World) : Calls Tryz.prog 24 #[.string s] w fun e w' => RefPost D w w' e := by
  obtain ⟨F0, B0⟩ := ri_new w
  have HR := Lib.hid (fun w => refSunReadC hsm w)
  rw [hR] at HR
  unfold hdV hd7 at HR
  have HLN := Lib.hid (fun w => refSunLine (W := W) (H := H) (d := 8) (t := t) (n := n) hW.2 (by omega) w)
  unfold hdV hd7 at HLN
  obtain ⟨ln, hln⟩ : ∃ l, (W * 8 + 15) / 16 * 2 = l := ⟨_, rfl⟩
  rw [hln] at HLN
  have hlnB : ln ≤ 65536 := by omega
  have hlW : (W * 8 + 7) / 8 ≤ ln := by omega
  have hSL : sunLine ⟨W, H, 8, t, n⟩ = ln := hln
  obtain ⟨M, hM⟩ : ∃ M, ln * H = M := ⟨_, rfl⟩
  have hMB : M ≤ 65536 * 16384 := by rw [← hM]; exact Nat.mul_le_mul hlnB hH.2
  obtain ⟨N, hN⟩ : ∃ N, W * H = N := ⟨_, rfl⟩
  have hNB : N ≤ 16384 * 16384 := by rw [← hN]; exact Nat.mul_le_mul hW.2 hH.2
  obtain ⟨a0, ha0⟩ : ∃ a, 32 + 3 * n = a := ⟨_, rfl⟩
  have ha0I : 32 + 3 * (n : Int) = (a0 : Int) := by omega
  have ha0s : ¬ (s.size : Int) < (a0 : Int) := by omega
  have ha0N : ¬ s.size < a0 := by omega
  obtain ⟨pk, hpk⟩ : ∃ pk, decide (t = 2) = pk := ⟨_, rfl⟩
  have hpkI : ((t : Int) == 2) = pk := by rw [← hpk]; by_cases h : t = 2 <;> simp [h] <;> omega
  obtain ⟨Z, hZ⟩ : ∃ Z, sunZ s ⟨W, H, 8, t, n⟩ = Z := ⟨_, rfl⟩
  have hZE : sunExp s pk M ⟨a0, 0, 0, 0⟩ = Z := by rw [← hZ, ← hpk, ← ha0, ← hM, ← hSL]; rfl
  have hZlt : ∀ x ∈ Z, x.1 < 256 := by rw [← hZE]; exact sunExp_lt M (show 0 < 256 by decide)
  have hZM : Z.length ≤ M := by rw [← hZE]; exact sunExp_len M
  obtain ⟨sh, hsh⟩ : ∃ sh, decide (Z.length < M) = sh := ⟨_, rfl⟩
  have HBS := Lib.hid (fun w => refSunBytes (s := s) (a := a0) (n := M) (pk := pk) hsm (by omega) (by omega) hZE hsh w)
  rw [hZ, hN] at hD
  have HD := Lib.hid hD
  have HF := Lib.hid (And.intro F0 B0)
  have hMI : IntKind.i64.wrap ((ln : Int) * (H : Int)) = (M : Int) := by rw [← Int.natCast_mul, hM]; exact IntWalk.i64_in _ (by omega)
  have HFACT := Lib.hid (And.intro hln (And.intro hM (And.intro hN (And.intro hSL (And.intro hsh hZlt)))))
  clear hR hD hZE hZlt hpk hln hM hSL hZ hsh F0 B0 ha0
  go_enter Tryz.func24, Tryz.ntmps24
  go_upto_region 9 with (first
    | (go_at_call 58; refine (HR.out _).mono ?_; rintro e w1 ⟨rfl, b1⟩; have A1 : RI (w1.alloc (.cells #[.int .i64 (W : Int), .int .i64 (H : Int), .int .i64 ((8 : Nat) : Int), .int .i64 (t : Int), .int .i64 (n : Int), .int .i64 0, .int .i64 0] 93)) w.heap.size 0 0 (.slice none 0 0) 0 0 := Blk.alloc (Blk.below HF.out.1 b1 (Blk.lt HF.out.1)) _; have H1 : Blk (w1.alloc (.cells #[.int .i64 (W : Int), .int .i64 (H : Int), .int .i64 ((8 : Nat) : Int), .int .i64 (t : Int), .int .i64 (n : Int), .int .i64 0, .int .i64 0] 93)) w1.heap.size 93 (hd7 (W : Int) (H : Int) ((8 : Nat) : Int) (t : Int) (n : Int) 0 0) := Blk.new _ _ _; have B1 : Below w.heap.size w (w1.alloc (.cells #[.int .i64 (W : Int), .int .i64 (H : Int), .int .i64 ((8 : Nat) : Int), .int .i64 (t : Int), .int .i64 (n : Int), .int .i64 0, .int .i64 0] 93)) := (below_next HF.out.2 b1).alloc (below_next HF.out.2 b1).size _; have n1 : w.heap.size ≤ w1.heap.size := (below_next HF.out.2 b1).size)
    | (go_at_call 68; refine (HLN.out _).mono ?_; rintro e w2 ⟨rfl, b2⟩; have A2 : RI w2 w.heap.size 0 0 (.slice none 0 0) 0 0 := Blk.below A1 b2 (Blk.lt A1); have H2 := Blk.below H1 b2 (Blk.lt H1); have B2 := below_next B1 b2; have q0 : w2.cell? ⟨w1.heap.size, 0, none⟩ = some (.int .i64 (W : Int)) := Blk.cell H2 0; have q1 : w2.cell? ⟨w1.heap.size, 1, none⟩ = some (.int .i64 (H : Int)) := Blk.cell H2 1; have q3 : w2.cell? ⟨w1.heap.size, 3, none⟩ = some (.int .i64 (t : Int)) := Blk.cell H2 3)
    | (go_at_call 69; refine (HBS.out _).mono ?_; rintro e w3 ⟨vp, rfl, P3, b3⟩; obtain ⟨va, vc, hvp⟩ := P3.sl; rw [zpl_len] at hvp; generalize hzl : Z.length = zl at hvp; subst hvp; have H3 := Blk.below H2 b3 (Blk.lt H2); have q0 : w3.cell? ⟨w1.heap.size, 0, none⟩ = some (.int .i64 (W : Int)) := Blk.cell H3 0; have q1 : w3.cell? ⟨w1.heap.size, 1, none⟩ = some (.int .i64 (H : Int)) := Blk.cell H3 1))
  have B3 := below_next B2 b3
  have A4 : RI (w3.alloc (.cells #[.string (strOf (zb8 Z)), .slice va zl vc, .bool sh] 128)) w.heap.size 0 0 (.slice none 0 0) 0 0 := Blk.alloc (Blk.below A2 b3 (Blk.lt A2)) _
  have H4 : Blk (w3.alloc (.cells #[.string (strOf (zb8 Z)), .slice va zl vc, .bool sh] 128)) w1.heap.size 93 (hd7 (W : Int) (H : Int) ((8 : Nat) : Int) (t : Int) (n : Int) 0 0) := Blk.alloc H3 _
  have X4 : Blk (w3.alloc (.cells #[.string (strOf (zb8 Z)), .slice va zl vc, .bool sh] 128)) w3.heap.size 128 #[.string (strOf (zb8 Z)), .slice va zl vc, .bool sh] := Blk.new _ _ _
  have P4 : Owns1 (w3.alloc (.cells #[.string (strOf (zb8 Z)), .slice va zl vc, .bool sh] 128)) w.heap.size 3 (.slice va zl vc) (zpl Z) := Owns1.alloc (World.ownsRow.mono P3 B2.size) _
  have B4 := B3.alloc B3.size (.cells #[.string (strOf (zb8 Z)), .slice va zl vc, .bool sh] 128)
  have n4 : w.heap.size < (w3.alloc (.cells #[.string (strOf (zb8 Z)), .slice va zl vc, .bool sh] 128)).heap.size := by have := B3.size; simp; omega
  generalize w3.alloc (.cells #[.string (strOf (zb8 Z)), .slice va zl vc, .bool sh] 128) = w4 at A4 H4 X4 P4 B4 n4 ⊢
  generalize w3.heap.size = pb at X4 ⊢
  generalize w1.heap.size = ph at H4 ⊢
  clear A1 H1 B1 n1 A2 H2 B2 q0 q1 q3 P3 b1 b2 b3 H3 B3
  have q0 : w4.cell? ⟨ph, 0, none⟩ = some (.int .i64 (W : Int)) := Blk.cell H4 0
  have q1 : w4.cell? ⟨ph, 1, none⟩ = some (.int .i64 (H : Int)) := Blk.cell H4 1
  go_upto_region 10 with fail
  have I0 : SdI w (w4.alloc (.cells #[.int .i64 (W : Int), .int .i64 (H : Int), .slice none 0 0, .int .i64 0, .int .i64 0] 42)) ph pb w4.heap.size W H 8 t n (strOf (zb8 Z)) (.slice va zl vc) (zpl Z) sh (.slice none 0 0) [] :=
    ⟨Blk.alloc A4 _, Blk.alloc H4 _, Blk.alloc X4 _, Blk.new _ _ _, Owns1.alloc P4 _, World.ownsRow_nil _ _ _ _, B4.alloc B4.size _, n4⟩
  generalize w4.alloc (.cells #[.int .i64 (W : Int), .int .i64 (H : Int), .slice none 0 0, .int .i64 0, .int .i64 0] 42) = w5 at I0 ⊢
  generalize w4.heap.size = po at I0 ⊢
  obtain ⟨zs, hzs⟩ : ∃ z, strOf (zb8 Z) = z := ⟨_, rfl⟩
  have hzsz : zs.size = zl := by rw [← hzs, strOf_size, zb8_len, hzl]
  rw [hzs] at I0
  have HI0 := Lib.hid I0
  have HZS := Lib.hid (And.intro hzs hzl)
  have hzszI : (zs.size : Int) = (zl : Int) := by omega
  have hWH : IntKind.i64.wrap ((W : Int) * (H : Int)) = (N : Int) := by rw [← Int.natCast_mul, HFACT.out.2.2.1]; exact IntWalk.i64_in _ (by omega)
  have hzlM : zl ≤ M := by rw [← hzl]; exact hZM
  clear I0 q0 q1 A4 H4 X4 P4 B4 n4 hzs hzl HBS HLN HR HF hpkI hMI hZM
  go_wp2_with fail
  go_loopg [8, 9, 10, 11, 12, 13] N (fun gh v8 v9 v10 v11 v12 v13 wr => ∃ (k : Nat) (v : Value) (L : List Qc), k + gh = N ∧ v8 = .int .i64 (k : Int) ∧ L.length = k ∧ Hid (sunPix2 s ⟨W, H, 8, t, n⟩ Z gh k L = D) ∧ Hid (SdI w wr ph pb po W H 8 t n zs (.slice va zl vc) (zpl Z) sh v L))
  case atStart => exact ⟨0, _, [], by omega, rfl, rfl, HD, HI0⟩
  case round =>
    obtain ⟨k, v, L, hk, rfl, hL, HRUN, HI⟩ := hrel
    clear HI0 HD
    obtain ⟨h0, h1, h2, h3, h4, h5, h6, y0, y1, y2⟩ := HI.out.heads
    have HL := Lib.hid hL
    clear hL
    by_cases hkN : k < N
    · have hkI : (k : Int) < (N : Int) := by omega
      obtain ⟨m, rfl⟩ : ∃ m, gk = m + 1 := ⟨gk - 1, by omega⟩
      have hW0 : ¬ (W : Int) = 0 := by omega
      obtain ⟨x, hx⟩ : ∃ x, k % W = x := ⟨_, rfl⟩
      have hxI : (k : Int) % (W : Int) = (x : Int) := by rw [← Int.natCast_emod, hx]
      have hxW : x < W := by rw [← hx]; exact Nat.mod_lt _ (by omega)
      obtain ⟨y, hy⟩ : ∃ y, k / W = y := ⟨_, rfl⟩
      have hyI : (k : Int) / (W : Int) = (y : Int) := by rw [← Int.natCast_ediv, hy]
      have hyH : y < H := by rw [← hy]; exact Nat.div_lt_of_lt_mul (by rw [HFACT.out.2.2.1]; exact hkN)
      obtain ⟨yl, hyl⟩ : ∃ q, y * ln = q := ⟨_, rfl⟩
      have hylB : yl ≤ 16384 * 65536 := by rw [← hyl]; exact Nat.mul_le_mul (by omega) hlnB
      have hylI : IntKind.i64.wrap ((y : Int) * (ln : Int)) = (yl : Int) := by rw [← Int.natCast_mul, hyl]; exact IntWalk.i64_in _ (by omega)
      have hq : x * 8 / 8 = x := by omega
      have hqI : True := trivial
      obtain ⟨a, ha⟩ : ∃ a, yl + x = a := ⟨_, rfl⟩
      have haI : (yl : Int) + (x : Int) = (a : Int) := by omega
      obtain ⟨a2, ha2⟩ : ∃ q, a + 1 = q := ⟨_, rfl⟩
      have ha2I : (a : Int) + 1 = (a2 : Int) := by omega
      have hpl : sunPlace ⟨W, H, 8, t, n⟩ k = a := by
        show k / W * sunLine ⟨W, H, 8, t, n⟩ + k % W * 8 / 8 = a
        rw [HFACT.out.2.2.2.1, hx, hy, hyl, hq, ha]
      have hsz : sunSize ⟨W, H, 8, t, n⟩ = 1 := by simp [sunSize]
      have hrun := HRUN.out
      rw [sunPix2, hpl, hsz, ha2, HZS.out.2] at hrun
      rw [show k % (⟨W, H, 8, t, n⟩ : SunHd).W = x from hx] at hrun
      have HFA := Lib.hid (And.intro hpl hsz)
      have hkB : (k : Int) ≤ 268435456 := by omega
      have haB : (a : Int) ≤ 1073807360 := by omega
      clear HRUN hx hy hyl hq hpl hsz
      go_upto_region 14 with fail
      rw [hxI]
      go_cut [84] from 54 to 143 (fun c wx => ∃ j, c = .bool (decide (x = 0 ∧ 0 < k ∧ zl < yl)) ∧ wx = wr.drewN j)
      case first =>
        by_cases hx0 : x = 0
        · have hx0I : (x : Int) = 0 := by omega
          have hx0B : ((x : Int) == 0) = true := by rw [beq_iff_eq]; exact hx0I
          by_cases hk0 : k = 0
          · have hk0B : decide ((0 : Int) < (k : Int)) = false := decide_eq_false (by omega)
            have hk0C : decide (0 < k) = false := decide_eq_false (by omega)
            have hdec := Lib.hid (decide_eq_false (p := x = 0 ∧ 0 < k ∧ zl < yl) (by omega))
            clear hk0 hx0 hx0I
            go_quiet (fail)
            go_wp2_with fail
            go_meet
            case rel => exact ⟨_, congrArg Value.bool hdec.out.symm, rfl⟩
          · have hk0I : (0 : Int) < (k : Int) := by omega
            have hk0N : 0 < k := by omega
            by_cases hzy : zl < yl
            · have hzyI : (zl : Int) < (yl : Int) := by omega
              have hdec := Lib.hid (decide_eq_true (p := x = 0 ∧ 0 < k ∧ zl < yl) (by omega))
              clear hx0 hx0I
              go_quiet (fail)
              go_wp2_with fail
              go_meet
              case rel => exact ⟨_, congrArg Value.bool hdec.out.symm, rfl⟩
            · have hzyI : ¬ (zl : Int) < (yl : Int) := by omega
              have hdec := Lib.hid (decide_eq_false (p := x = 0 ∧ 0 < k ∧ zl < yl) (by omega))
              clear hx0 hx0I
              go_quiet (fail)
              go_wp2_with fail
              go_meet
              case rel => exact ⟨_, congrArg Value.bool hdec.out.symm, rfl⟩
        · have hx0B : ((x : Int) == 0) = false := by rw [beq_eq_false_iff_ne]; omega
          have hdec := Lib.hid (decide_eq_false (p := x = 0 ∧ 0 < k ∧ zl < yl) (by omega))
          go_quiet (fail)
          go_wp2_with fail
          go_meet
          case rel => exact ⟨_, congrArg Value.bool hdec.out.symm, rfl⟩
      case rest =>
        obtain ⟨j, rfl, rfl⟩ := hcut
        by_cases hE : x = 0 ∧ 0 < k ∧ zl < yl
        · rw [if_pos (by omega)] at hrun
          rw [decide_eq_true hE]
          have HRUN := Lib.hid hrun
          clear hrun hE
          go_wp2_with (go_at_call 67; refine (refBadC 1 _ _).mono ?_; rintro e wb ⟨rfl, bb⟩; have IB := (HI.out.drewN _).below bb; obtain ⟨x0, x1, x2, x3, x4, zx0, zx1, zx2, zx3, zx4, xl⟩ := RI.all IB.A)
          exact bodyPost_ret (v := .agg #[.int .i64 0, .int .i64 0, .slice none 0 0, .int .i64 1, .int .i64 (s.size : Int)]) (by simp [results, Tryz.results24, go_sem, x0, x1, x2, x3, x4]) rfl (by rw [show D = DRes.bad 1 s.size from HRUN.out.symm]; exact ⟨Below.st5 IB.B (Nat.le_refl _), rfl⟩)
        · rw [decide_eq_false hE]
          clear hE
          by_cases hz2 : zl < a2
          · have hz2I : (zl : Int) < (a2 : Int) := by omega
            rw [if_pos hz2] at hrun
            have HRUN := Lib.hid hrun
            clear hrun
            go_wp2_with fail
            go_quiet (fail)
            go_wp2_with (go_at_call 67; refine (refBadC 1 _ _).mono ?_; rintro e wb ⟨rfl, bb⟩; have IB := (HI.out.drewN _).below bb; obtain ⟨x0, x1, x2, x3, x4, zx0, zx1, zx2, zx3, zx4, xl⟩ := RI.all IB.A)
            exact bodyPost_ret (v := .agg #[.int .i64 0, .int .i64 0, .slice none 0 0, .int .i64 1, .int .i64 (s.size : Int)]) (by simp [results, Tryz.results24, go_sem, x0, x1, x2, x3, x4]) rfl (by rw [show D = DRes.bad 1 s.size from HRUN.out.symm]; exact ⟨Below.st5 IB.B (Nat.le_refl _), rfl⟩)
          · have hz2I : ¬ (zl : Int) < (a2 : Int) := by omega
            rw [if_neg hz2] at hrun
            have hbs : (zs.extract a a2).size = sunSize ⟨W, H, 8, t, n⟩ := by rw [ByteArray.size_extract, HFA.out.2]; omega
            have HPX0 := fun w => refSunPixel (s := s) (b := zs.extract a a2) (W := W) (H := H) (d := 8) (t := t) (n := n) (x := x) (.inr (.inl rfl)) hbs hsm hn hs w
            have hcol : sunColB s ⟨W, H, 8, t, n⟩ (zs.extract a a2) x = sunColAt s ⟨W, H, 8, t, n⟩ Z a x := by
              have := sunColB_at (s := s) (h := ⟨W, H, 8, t, n⟩) (Z := Z) (a := a) (x := x) (.inr (.inl rfl)) HFACT.out.2.2.2.2.2 (by rw [HFA.out.2, HZS.out.2]; omega)
              rw [HFA.out.2, ha2, HZS.out.1] at this
              exact this
            rw [hcol] at HPX0
            generalize sunColAt s ⟨W, H, 8, t, n⟩ Z a x = oc at HPX0 hrun
            have haz : (a : Int) < (zl : Int) := by omega
            have haN : a < zl := by omega
            have hcut1 : (a : Int) ≤ (a2 : Int) := by omega
            have hcut2 : (a2 : Int) ≤ (zl : Int) := by omega
            unfold hdV hd7 at HPX0
            obtain ⟨qc, hqc⟩ : ∃ q, oc.getD ⟨0, 0, 0, 0⟩ = q := ⟨_, rfl⟩
            obtain ⟨qb, hqb⟩ : ∃ q, oc.isSome = q := ⟨_, rfl⟩
            rw [hqc, hqb] at HPX0
            unfold Qc.v at HPX0
            have HPX := Lib.hid HPX0
            have HQQ := Lib.hid (And.intro hqc hqb)
            have HRUN := Lib.hid hrun
            clear hrun HPX0 hqc hqb hbs hcol ha2
            go_wp2_with fail
            go_quiet (fail)
            go_upto_region 22 with fail
            go_cut [12, 13] from 54 to 143 (fun c12 c13 wx => ∃ cb, c12 = .pointer (some ⟨cb, 0, none⟩) ∧ c13 = .bool qb ∧ Hid (SdI w wx ph pb po W H 8 t n zs (.slice va zl vc) (zpl Z) sh v L ∧ Blk wx cb 131 #[.int .u8 (qc.r.toNat : Int), .int .u8 (qc.g.toNat : Int), .int .u8 (qc.b.toNat : Int), .int .u8 (qc.a.toNat : Int)]))
            case first =>
              clear hylI hWH hqI haI
              have hwa : IntKind.i64.wrap (a2 : Int) = (a2 : Int) := IntWalk.i64_in _ (by omega)
              have ha2z : a2 ≤ zl := by omega
              have haa2 : a ≤ a2 := by omega
              refine wp_gen (S := fun wx => SdI w wx ph pb po W H 8 t n zs (.slice va zl vc) (zpl Z) sh v L) (by exact (HI.out.drewN _)) (fun wx hX => ?_)
              have HX := Lib.hid hX
              clear hX
              refine wp_region_held_drew (S := (SdS ph pb W H 8 t n zs)) (by kernel_rfl) HX.out.drew.sds (fun hHeld => ?_)
              refine wpAnyH_take (i := 0) (v := ?_) rfl (by kernel_rfl) (by kernel_rfl) (by kernel_rfl) (fun _ _ _ h => h) (Or.inl ⟨by kernel_rfl, ?_⟩) (by assumption) ?_
              rotate_left
              · intro w hSw; obtain ⟨s0, s1, s2, s3, s4, s5, s6, s7⟩ := hSw; go_simp; (try with_reducible rfl)
              (try simp only [Act.put, List.setIfInBounds_toArray, List.set_cons_zero, List.set_cons_succ])
              refine wpAnyH_take (i := 1) (v := ?_) rfl (by kernel_rfl) (by kernel_rfl) (by kernel_rfl) (fun _ _ _ h => h) (Or.inl ⟨by kernel_rfl, ?_⟩) (by assumption) ?_
              rotate_left
              · intro w hSw; obtain ⟨s0, s1, s2, s3, s4, s5, s6, s7⟩ := hSw; go_simp; (try with_reducible rfl)
              (try simp only [Act.put, List.setIfInBounds_toArray, List.set_cons_zero, List.set_cons_succ])
              refine wpAnyH_take (i := 2) (v := ?_) rfl (by kernel_rfl) (by kernel_rfl) (by kernel_rfl) (fun _ _ _ h => h) (Or.inl ⟨by kernel_rfl, ?_⟩) (by assumption) ?_
              rotate_left
              · intro w hSw; obtain ⟨s0, s1, s2, s3, s4, s5, s6, s7⟩ := hSw; go_simp; (try with_reducible rfl)
              (try simp only [Act.put, List.setIfInBounds_toArray, List.set_cons_zero, List.set_cons_succ])
              refine wpAnyH_take (i := 3) (v := ?_) rfl (by kernel_rfl) (by kernel_rfl) (by kernel_rfl) (fun _ _ _ h => h) (Or.inl ⟨by kernel_rfl, ?_⟩) (by assumption) ?_
              rotate_left
              · intro w hSw; obtain ⟨s0, s1, s2, s3, s4, s5, s6, s7⟩ := hSw; go_simp; (try with_reducible rfl)
              (try simp only [Act.put, List.setIfInBounds_toArray, List.set_cons_zero, List.set_cons_succ])
              refine wpAnyH_take (i := 4) (v := ?_) rfl (by kernel_rfl) (by kernel_rfl) (by kernel_rfl) (fun _ _ _ h => h) (Or.inl ⟨by kernel_rfl, ?_⟩) (by assumption) ?_
              rotate_left
              · intro w hSw; obtain ⟨s0, s1, s2, s3, s4, s5, s6, s7⟩ := hSw; go_simp; (try with_reducible rfl)
              (try simp only [Act.put, List.setIfInBounds_toArray, List.set_cons_zero, List.set_cons_succ])
              refine wpAnyH_take (i := 5) (v := ?_) rfl (by kernel_rfl) (by kernel_rfl) (by kernel_rfl) (fun _ _ _ h => h) (Or.inl ⟨by kernel_rfl, ?_⟩) (by assumption) ?_
              rotate_left
              · intro w hSw; obtain ⟨s0, s1, s2, s3, s4, s5, s6, s7⟩ := hSw; go_simp; (try with_reducible rfl)
              (try simp only [Act.put, List.setIfInBounds_toArray, List.set_cons_zero, List.set_cons_succ])
              refine wpAnyH_take (i := 6) (v := ?_) rfl (by kernel_rfl) (by kernel_rfl) (by kernel_rfl) (fun _ _ _ h => h) (Or.inl ⟨by kernel_rfl, ?_⟩) (by assumption) ?_
              rotate_left
              · intro w hSw; obtain ⟨s0, s1, s2, s3, s4, s5, s6, s7⟩ := hSw; go_simp; (try with_reducible rfl)
              (try simp only [Act.put, List.setIfInBounds_toArray, List.set_cons_zero, List.set_cons_succ])
              refine wpAnyH_take (i := 7) (v := ?_) rfl (by kernel_rfl) (by kernel_rfl) (by kernel_rfl) (fun _ _ _ h => h) (Or.inl ⟨by kernel_rfl, ?_⟩) (by assumption) ?_
              rotate_left
              · intro w hSw; obtain ⟨s0, s1, s2, s3, s4, s5, s6, s7⟩ := hSw; go_simp; (try with_reducible rfl)
              (try simp only [Act.put, List.setIfInBounds_toArray, List.set_cons_zero, List.set_cons_succ])
              refine wpAnyH_take (i := 8) (v := ?_) rfl (by kernel_rfl) (by kernel_rfl) (by kernel_rfl) (fun _ _ _ h => h) (Or.inl ⟨by kernel_rfl, ?_⟩) (by assumption) ?_
              rotate_left
              · intro w hSw; obtain ⟨s0, s1, s2, s3, s4, s5, s6, s7⟩ := hSw; go_simp; (try with_reducible rfl)
              (try simp only [Act.put, List.setIfInBounds_toArray, List.set_cons_zero, List.set_cons_succ])
              refine wpAnyH_take (i := 9) (v := ?_) rfl (by kernel_rfl) (by kernel_rfl) (by kernel_rfl) (fun _ _ _ h => h) (Or.inl ⟨by kernel_rfl, ?_⟩) (by assumption) ?_
              rotate_left
              · intro w hSw; obtain ⟨s0, s1, s2, s3, s4, s5, s6, s7⟩ := hSw; go_simp; (try with_reducible rfl)
              (try simp only [Act.put, List.setIfInBounds_toArray, List.set_cons_zero, List.set_cons_succ])
              refine wpAnyH_ready (rs := [10, 14]) (by kernel_rfl) (by simp) ?_
              refine AllReadyH.cons rfl (fun K hK => ?_) (AllReadyH.cons rfl (fun K hK => ?_) AllReadyH.nil)
              · go_simp
                refine (HPX.out _).mono ?_
                rintro e w8 ⟨rfl, b8⟩
                have I8 := HX.out.drew.below b8
                refine hK.out _ _ I8.sds (fun hHeld' => ?_)
                clear hK K hHeld
                have hHeld := hHeld'
                clear hHeld'
                (try simp only [Act.put, List.setIfInBounds_toArray, List.set_cons_zero, List.set_cons_succ])
                refine wpAnyH_take (i := 11) (v := ?_) rfl (by kernel_rfl) (by kernel_rfl) (by kernel_rfl) (fun _ _ _ h => h) (Or.inl ⟨by kernel_rfl, ?_⟩) (by assumption) ?_
                rotate_left
                · intro w hSw; obtain ⟨s0, s1, s2, s3, s4, s5, s6, s7⟩ := hSw; go_simp; (try with_reducible rfl)
                (try simp only [Act.put, List.setIfInBounds_toArray, List.set_cons_zero, List.set_cons_succ])
                refine wpAnyH_take (i := 12) (v := ?_) rfl (by kernel_rfl) (by kernel_rfl) (by kernel_rfl) (fun _ _ _ h => h) (Or.inl ⟨by kernel_rfl, ?_⟩) (by assumption) ?_
                rotate_left
                · intro w hSw; obtain ⟨s0, s1, s2, s3, s4, s5, s6, s7⟩ := hSw; go_simp; (try with_reducible rfl)
                (try simp only [Act.put, List.setIfInBounds_toArray, List.set_cons_zero, List.set_cons_succ])
                refine wpAnyH_take (i := 13) (v := ?_) rfl (by kernel_rfl) (by kernel_rfl) (by kernel_rfl) (fun _ _ _ h => h) (Or.inl ⟨by kernel_rfl, ?_⟩) (by assumption) ?_
                rotate_left
                · intro w hSw; obtain ⟨s0, s1, s2, s3, s4, s5, s6, s7⟩ := hSw; go_simp; (try with_reducible rfl)
                (try simp only [Act.put, List.setIfInBounds_toArray, List.set_cons_zero, List.set_cons_succ])
                refine wpAnyH_ready (rs := [14]) (by kernel_rfl) (by simp) ?_
                refine AllReadyH.cons rfl (fun K hK => ?_) AllReadyH.nil
                go_simp
                have n9 := b8.size
                have b9 := b8.alloc b8.size (.cells #[.int .u8 0, .int .u8 0, .int .u8 0, .int .u8 0] 131)
                have I9 := I8.alloc (.cells #[.int .u8 0, .int .u8 0, .int .u8 0, .int .u8 0] 131)
                have C9 : Blk (w8.alloc (.cells #[.int .u8 0, .int .u8 0, .int .u8 0, .int .u8 0] 131)) w8.heap.size 131 #[.int .u8 0, .int .u8 0, .int .u8 0, .int .u8 0] := Blk.new _ _ _
                generalize w8.alloc (.cells #[.int .u8 0, .int .u8 0, .int .u8 0, .int .u8 0] 131) = w9 at b9 I9 C9 ⊢
                generalize w8.heap.size = cb at n9 C9 ⊢
                obtain ⟨l0, l1, l2, l3, z0, z1, z2, z3, ll⟩ := col4_all C9
                refine hK.out _ _ I9.sds (fun hHeld' => ?_)
                clear hK K hHeld
                have hHeld := hHeld'
                clear hHeld'
                (try simp only [Act.put, List.setIfInBounds_toArray, List.set_cons_zero, List.set_cons_succ])
                refine wpAnyH_ready (rs := [15]) (by kernel_rfl) (by simp) ?_
                refine AllReadyH.cons rfl (fun K hK => ?_) AllReadyH.nil
                go_simp
                have IF := SdI.lay4 (cb := cb) (u0 := .int .u8 (qc.r.toNat : Int)) (u1 := .int .u8 (qc.g.toNat : Int)) (u2 := .int .u8 (qc.b.toNat : Int)) (u3 := .int .u8 (qc.a.toNat : Int)) HX.out.drew b9 n9
                have CF := col4 (u0 := .int .u8 (qc.r.toNat : Int)) (u1 := .int .u8 (qc.g.toNat : Int)) (u2 := .int .u8 (qc.b.toNat : Int)) (u3 := .int .u8 (qc.a.toNat : Int)) C9
                refine hK.out _ _ IF.sds (fun hHeld' => ?_)
                clear hK K hHeld
                have hHeld := hHeld'
                clear hHeld'
                (try simp only [Act.put, List.setIfInBounds_toArray, List.set_cons_zero, List.set_cons_succ])
                refine wpAnyH_take (i := 16) (v := ?_) rfl (by kernel_rfl) (by kernel_rfl) (by kernel_rfl) (fun _ _ _ h => h) (Or.inl ⟨by kernel_rfl, ?_⟩) (by assumption) ?_
                rotate_left
                · intro w hSw; obtain ⟨s0, s1, s2, s3, s4, s5, s6, s7⟩ := hSw; go_simp; (try with_reducible rfl)
                (try simp only [Act.put, List.setIfInBounds_toArray, List.set_cons_zero, List.set_cons_succ])
                refine wpAnyH_done (by kernel_rfl) ?_ _
                (try simp only [List.getElem_toArray, List.getElem_cons_succ, List.getElem_cons_zero, List.set_cons_zero, List.set_cons_succ])
                go_wp2_with fail
                go_meet
                case rel => exact ⟨cb, rfl, rfl, Lib.hid ⟨IF, CF⟩⟩
              · go_simp
                have b7 : Below wx.heap.size wx (wx.alloc (.cells #[.int .u8 0, .int .u8 0, .int .u8 0, .int .u8 0] 131)).drew := ((Below.refl wx.heap.size wx).alloc (Nat.le_refl _) _).drew
                have C7 : Blk (wx.alloc (.cells #[.int .u8 0, .int .u8 0, .int .u8 0, .int .u8 0] 131)).drew wx.heap.size 131 #[.int .u8 0, .int .u8 0, .int .u8 0, .int .u8 0] := Blk.drew (Blk.new wx _ _)
                generalize (wx.alloc (.cells #[.int .u8 0, .int .u8 0, .int .u8 0, .int .u8 0] 131)).drew = w7 at b7 C7 ⊢
                generalize hcb : wx.heap.size = cb at C7 ⊢
                have n9 := Nat.le_of_eq hcb
                have I7 := HX.out.below b7
                refine hK.out _ _ I7.sds (fun hHeld' => ?_)
                clear hK K hHeld
                have hHeld := hHeld'
                clear hHeld'
                (try simp only [Act.put, List.setIfInBounds_toArray, List.set_cons_zero, List.set_cons_succ])
                refine wpAnyH_ready (rs := [10]) (by kernel_rfl) (by simp) ?_
                refine AllReadyH.cons rfl (fun K hK => ?_) AllReadyH.nil
                go_simp
                refine (HPX.out _).mono ?_
                rintro e w8 ⟨rfl, b8⟩
                have I8 := I7.below b8
                have C9 := Blk.below C7 b8 (Blk.lt C7)
                have b9 : Below wx.heap.size wx w8 := b7.trans (b8.mono b7.size)
                obtain ⟨l0, l1, l2, l3, z0, z1, z2, z3, ll⟩ := col4_all C9
                refine hK.out _ _ I8.sds (fun hHeld' => ?_)
                clear hK K hHeld
                have hHeld := hHeld'
                clear hHeld'
                (try simp only [Act.put, List.setIfInBounds_toArray, List.set_cons_zero, List.set_cons_succ])
                refine wpAnyH_take (i := 11) (v := ?_) rfl (by kernel_rfl) (by kernel_rfl) (by kernel_rfl) (fun _ _ _ h => h) (Or.inl ⟨by kernel_rfl, ?_⟩) (by assumption) ?_
                rotate_left
                · intro w hSw; obtain ⟨s0, s1, s2, s3, s4, s5, s6, s7⟩ := hSw; go_simp; (try with_reducible rfl)
                (try simp only [Act.put, List.setIfInBounds_toArray, List.set_cons_zero, List.set_cons_succ])
                refine wpAnyH_take (i := 12) (v := ?_) rfl (by kernel_rfl) (by kernel_rfl) (by kernel_rfl) (fun _ _ _ h => h) (Or.inl ⟨by kernel_rfl, ?_⟩) (by assumption) ?_
                rotate_left
                · intro w hSw; obtain ⟨s0, s1, s2, s3, s4, s5, s6, s7⟩ := hSw; go_simp; (try with_reducible rfl)
                (try simp only [Act.put, List.setIfInBounds_toArray, List.set_cons_zero, List.set_cons_succ])
                refine wpAnyH_take (i := 13) (v := ?_) rfl (by kernel_rfl) (by kernel_rfl) (by kernel_rfl) (fun _ _ _ h => h) (Or.inl ⟨by kernel_rfl, ?_⟩) (by assumption) ?_
                rotate_left
                · intro w hSw; obtain ⟨s0, s1, s2, s3, s4, s5, s6, s7⟩ := hSw; go_simp; (try with_reducible rfl)
                (try simp only [Act.put, List.setIfInBounds_toArray, List.set_cons_zero, List.set_cons_succ])
                refine wpAnyH_ready (rs := [15]) (by kernel_rfl) (by simp) ?_
                refine AllReadyH.cons rfl (fun K hK => ?_) AllReadyH.nil
                go_simp
                have IF := SdI.lay4 (cb := cb) (u0 := .int .u8 (qc.r.toNat : Int)) (u1 := .int .u8 (qc.g.toNat : Int)) (u2 := .int .u8 (qc.b.toNat : Int)) (u3 := .int .u8 (qc.a.toNat : Int)) HX.out b9 n9
                have CF := col4 (u0 := .int .u8 (qc.r.toNat : Int)) (u1 := .int .u8 (qc.g.toNat : Int)) (u2 := .int .u8 (qc.b.toNat : Int)) (u3 := .int .u8 (qc.a.toNat : Int)) C9
                refine hK.out _ _ IF.sds (fun hHeld' => ?_)
                clear hK K hHeld
                have hHeld := hHeld'
                clear hHeld'
                (try simp only [Act.put, List.setIfInBounds_toArray, List.set_cons_zero, List.set_cons_succ])
                refine wpAnyH_take (i := 16) (v := ?_) rfl (by kernel_rfl) (by kernel_rfl) (by kernel_rfl) (fun _ _ _ h => h) (Or.inl ⟨by kernel_rfl, ?_⟩) (by assumption) ?_
                rotate_left
                · intro w hSw; obtain ⟨s0, s1, s2, s3, s4, s5, s6, s7⟩ := hSw; go_simp; (try with_reducible rfl)
                (try simp only [Act.put, List.setIfInBounds_toArray, List.set_cons_zero, List.set_cons_succ])
                refine wpAnyH_done (by kernel_rfl) ?_ _
                (try simp only [List.getElem_toArray, List.getElem_cons_succ, List.getElem_cons_zero, List.set_cons_zero, List.set_cons_succ])
                go_wp2_with fail
                go_meet
                case rel => exact ⟨cb, rfl, rfl, Lib.hid ⟨IF, CF⟩⟩
            case rest =>
              obtain ⟨cb, rfl, rfl, HJ⟩ := hcut
              clear hylI hWH hqI haI h0 h1 h2 h3 h4 y0 y1 y2 HPX
              obtain ⟨hqc, hqb⟩ := HQQ.out
              cases oc with
              | none =>
                obtain rfl : qb = false := hqb.symm
                obtain ⟨gp, hva⟩ : ∃ g, va = some ⟨g, 0, none⟩ := by
                  rcases HJ.out.1.P.form with ⟨e, _⟩ | ⟨g, cap, e, _⟩
                  · injection e with e1 e2 e3; omega
                  · injection e with e1 e2 e3; exact ⟨g, e1⟩
                subst hva
                have hplace : wc.cell? ⟨gp, a, none⟩ = some (.int .i64 (zp Z a : Int)) := by
                  rcases HJ.out.1.P.form with ⟨e, _⟩ | ⟨g, cap, e, _, _, _, _, hc⟩
                  · cases e
                  · injection e with e1 e2 e3
                    injection e1 with e1
                    injection e1 with e1
                    subst e1
                    have hl : a < Z.length := by rw [HZS.out.2]; exact haN
                    rw [hc a (by rw [zpl_len]; exact hl)]
                    unfold zpl zp
                    rw [List.getElem?_map, List.getElem?_eq_getElem hl, List.getD_eq_getElem?_getD, List.getElem?_eq_getElem hl]
                    rfl
                obtain ⟨pz, hpz⟩ : ∃ p, zp Z a = p := ⟨_, rfl⟩
                have hrun := HRUN.out
                simp only at hrun
                rw [hpz] at hplace hrun
                have HR2 := Lib.hid hrun
                have y1 : wc.cell? ⟨pb, 1, none⟩ = some (.slice (some ⟨gp, 0, none⟩) zl vc) := HJ.out.1.heads.2.2.2.2.2.2.2.2.1
                clear hrun hpz HRUN HQQ
                go_wp2_with (go_at_call 67; refine (refBadC 2 _ _).mono ?_; rintro e wb ⟨rfl, bb⟩; have IB := HJ.out.1.below bb; obtain ⟨x0, x1, x2, x3, x4, zx0, zx1, zx2, zx3, zx4, xl⟩ := RI.all IB.A)
                exact bodyPost_ret (v := .agg #[.int .i64 0, .int .i64 0, .slice none 0 0, .int .i64 2, .int .i64 (pz : Int)]) (by simp [results, Tryz.results24, go_sem, x0, x1, x2, x3, x4]) rfl (by rw [show D = DRes.bad 2 pz from HR2.out.symm]; exact ⟨Below.st5 IB.B (Nat.le_refl _), rfl⟩)
              | some c =>
                obtain rfl : qb = true := hqb.symm
                obtain rfl : c = qc := hqc
                have hrun := HRUN.out
                simp only at hrun
                have HR2 := Lib.hid hrun
                obtain ⟨l0, l1, l2, l3, z0, z1, z2, z3, ll⟩ := col4_all HJ.out.2
                obtain ⟨X0, X1, X2, X3, X4, zX0, zX1, zX2, zX3, zX4, Xl⟩ := RI.all HJ.out.1.X
                have hll : L.length + ([c] : List Qc).length < 1099511627776 := by rw [HL.out]; simp; omega
                have hbz : w.heap.size ≤ (wc.alloc (.cells #[.int .u8 (c.r.toNat : Int), .int .u8 (c.g.toNat : Int), .int .u8 (c.b.toNat : Int), .int .u8 (c.a.toNat : Int)] 131)).heap.size := by have := HJ.out.1.B.size; simp; omega
                clear hrun HRUN HQQ
                go_wp2_with (at_builtin; refine wpList_append_cols rfl (.tmp 139) (.tmp 141) rfl w.heap.size v L rfl (HJ.out.1.O.alloc _) wc.heap.size 1 1 [c] rfl rfl (q_new wc c) hll hbz ?_; intro v6 w6 o6 b6 g6; have IG := SdI.grow (HJ.out.1.alloc _) o6 b6 g6; have X6 : RI w6 po (W : Int) (H : Int) v 0 0 := Blk.grownQ (Blk.alloc HJ.out.1.X _) (HJ.out.1.O.alloc _) (by decide) g6; obtain ⟨a6, c6, hv6⟩ := o6.slice; generalize hn6 : (L ++ [c]).length = n6 at hv6; subst hv6; clear X0 X1 X2 X3 X4 zX0 zX1 zX2 zX3 zX4 Xl l0 l1 l2 l3 z0 z1 z2 z3 ll; obtain ⟨X0, X1, X2, X3, X4, zX0, zX1, zX2, zX3, zX4, Xl⟩ := RI.all X6)
                have HG := Lib.hid IG
                have HN6 := Lib.hid hn6
                clear IG X6 o6 b6 g6 X0 X1 X2 X3 X4 zX0 zX1 zX2 zX3 zX4 Xl hn6 hll hbz
                go_roundg m
                case measure => omega
                case rel => exact ⟨k + 1, _, L ++ [c], by omega, by go_num, by rw [List.length_append, HL.out]; rfl, HR2, HG⟩
    · obtain rfl : k = N := by omega
      obtain rfl : gk = 0 := by omega
      have hkI : ¬ (k : Int) < (k : Int) := by omega
      have hrun := HRUN.out
      rw [sunPix2] at hrun
      have hM : sunLine ⟨W, H, 8, t, n⟩ * (⟨W, H, 8, t, n⟩ : SunHd).H = M := by rw [HFACT.out.2.2.2.1]; exact HFACT.out.2.1
      rw [hM] at hrun
      have hsh := HFACT.out.2.2.2.2.1
      by_cases hz : Z.length < M
      · rw [if_pos hz] at hrun
        rw [decide_eq_true hz] at hsh
        subst hsh
        have HR2 := Lib.hid hrun
        clear hrun HRUN hM hz
        go_wp2_with (go_at_call 67; refine (refBadC 1 _ _).mono ?_; rintro e wb ⟨rfl, bb⟩; have IB := HI.out.below bb; obtain ⟨x0, x1, x2, x3, x4, zx0, zx1, zx2, zx3, zx4, xl⟩ := RI.all IB.A)
        exact bodyPost_ret (v := .agg #[.int .i64 0, .int .i64 0, .slice none 0 0, .int .i64 1, .int .i64 (s.size : Int)]) (by simp [results, Tryz.results24, go_sem, x0, x1, x2, x3, x4]) rfl (by rw [show D = DRes.bad 1 s.size from HR2.out.symm]; exact ⟨Below.st5 IB.B (Nat.le_refl _), rfl⟩)
      · rw [if_neg hz] at hrun
        rw [decide_eq_false hz] at hsh
        subst hsh
        have HR2 := Lib.hid hrun
        obtain ⟨va', vc', hv⟩ := HI.out.O.slice
        generalize L.length = ll at hv
        subst hv
        obtain ⟨x0, x1, x2, x3, x4, zx0, zx1, zx2, zx3, zx4, xl⟩ := RI.all HI.out.A
        obtain ⟨X0, X1, X2, X3, X4, zX0, zX1, zX2, zX3, zX4, Xl⟩ := RI.all HI.out.X
        have HNN := HFACT.out.2.2.1
        clear hrun HRUN hM hz
        go_wp2_with fail
        exact bodyPost_ret (v := .agg #[.int .i64 (W : Int), .int .i64 (H : Int), .slice va' ll vc', .int .i64 0, .int .i64 0]) (by simp [results, Tryz.results24, go_sem, x0, x1, x2, x3, x4]) rfl (by rw [show D = DRes.img W H (flat L) from HR2.out.symm]; exact ⟨HI.out.outs.1, _, L, rfl, HI.out.outs.2, rfl, by rw [HL.out, HNN]⟩)
set_option maxRecDepth 100000 in
set_option maxHeartbeats 8000000 in
theorem refSunDec24 {s : ByteArray} {W H t n : Nat} {D : DRes} (hsm : s.size ≤ 1099511627776) (hs : 32 + 3 * n ≤ s.size) (hW : 1 ≤ W ∧ W ≤ 16384) (hH : 1 ≤ H ∧ H ≤ 16384) (hn : n ≤ 256) (hR : sunRdV s = hdV (W : Int) (H : Int) ((24 : Nat) : Int) (t : Int) (n : Int) 0 0)
    (hD : sunPix2 s ⟨W, H, 24, t, n⟩ (sunZ s ⟨W, H, 24, t, n⟩) (W * H) 0 [] = D) (w : World) : Calls Tryz.prog 24 #[.string s] w fun e w' => RefPost D w w' e := by
  obtain ⟨F0, B0⟩ := ri_new w
  have HR := Lib.hid (fun w => refSunReadC hsm w)
  rw [hR] at HR
  unfold hdV hd7 at HR
  have HLN := Lib.hid (fun w => refSunLine (W := W) (H := H) (d := 24) (t := t) (n := n) hW.2 (by omega) w)
  unfold hdV hd7 at HLN
  obtain ⟨ln, hln⟩ : ∃ l, (W * 24 + 15) / 16 * 2 = l := ⟨_, rfl⟩
  rw [hln] at HLN
  have hlnB : ln ≤ 65536 := by omega
  have hlW : (W * 24 + 7) / 8 ≤ ln := by omega
  have hSL : sunLine ⟨W, H, 24, t, n⟩ = ln := hln
  obtain ⟨M, hM⟩ : ∃ M, ln * H = M := ⟨_, rfl⟩
  have hMB : M ≤ 65536 * 16384 := by rw [← hM]; exact Nat.mul_le_mul hlnB hH.2
  obtain ⟨N, hN⟩ : ∃ N, W * H = N := ⟨_, rfl⟩
  have hNB : N ≤ 16384 * 16384 := by rw [← hN]; exact Nat.mul_le_mul hW.2 hH.2
  obtain ⟨a0, ha0⟩ : ∃ a, 32 + 3 * n = a := ⟨_, rfl⟩
  have ha0I : 32 + 3 * (n : Int) = (a0 : Int) := by omega
  have ha0s : ¬ (s.size : Int) < (a0 : Int) := by omega
  have ha0N : ¬ s.size < a0 := by omega
  obtain ⟨pk, hpk⟩ : ∃ pk, decide (t = 2) = pk := ⟨_, rfl⟩
  have hpkI : ((t : Int) == 2) = pk := by rw [← hpk]; by_cases h : t = 2 <;> simp [h] <;> omega
  obtain ⟨Z, hZ⟩ : ∃ Z, sunZ s ⟨W, H, 24, t, n⟩ = Z := ⟨_, rfl⟩
  have hZE : sunExp s pk M ⟨a0, 0, 0, 0⟩ = Z := by rw [← hZ, ← hpk, ← ha0, ← hM, ← hSL]; rfl
  have hZlt : ∀ x ∈ Z, x.1 < 256 := by rw [← hZE]; exact sunExp_lt M (show 0 < 256 by decide)
  have hZM : Z.length ≤ M := by rw [← hZE]; exact sunExp_len M
  obtain ⟨sh, hsh⟩ : ∃ sh, decide (Z.length < M) = sh := ⟨_, rfl⟩
  have HBS := Lib.hid (fun w => refSunBytes (s := s) (a := a0) (n := M) (pk := pk) hsm (by omega) (by omega) hZE hsh w)
  rw [hZ, hN] at hD
  have HD := Lib.hid hD
  have HF := Lib.hid (And.intro F0 B0)
  have hMI : IntKind.i64.wrap ((ln : Int) * (H : Int)) = (M : Int) := by rw [← Int.natCast_mul, hM]; exact IntWalk.i64_in _ (by omega)
  have HFACT := Lib.hid (And.intro hln (And.intro hM (And.intro hN (And.intro hSL (And.intro hsh hZlt)))))
  clear hR hD hZE hZlt hpk hln hM hSL hZ hsh F0 B0 ha0
  go_enter Tryz.func24, Tryz.ntmps24
  go_upto_region 9 with (first
    | (go_at_call 58; refine (HR.out _).mono ?_; rintro e w1 ⟨rfl, b1⟩; have A1 : RI (w1.alloc (.cells #[.int .i64 (W : Int), .int .i64 (H : Int), .int .i64 ((24 : Nat) : Int), .int .i64 (t : Int), .int .i64 (n : Int), .int .i64 0, .int .i64 0] 93)) w.heap.size 0 0 (.slice none 0 0) 0 0 := Blk.alloc (Blk.below HF.out.1 b1 (Blk.lt HF.out.1)) _; have H1 : Blk (w1.alloc (.cells #[.int .i64 (W : Int), .int .i64 (H : Int), .int .i64 ((24 : Nat) : Int), .int .i64 (t : Int), .int .i64 (n : Int), .int .i64 0, .int .i64 0] 93)) w1.heap.size 93 (hd7 (W : Int) (H : Int) ((24 : Nat) : Int) (t : Int) (n : Int) 0 0) := Blk.new _ _ _; have B1 : Below w.heap.size w (w1.alloc (.cells #[.int .i64 (W : Int), .int .i64 (H : Int), .int .i64 ((24 : Nat) : Int), .int .i64 (t : Int), .int .i64 (n : Int), .int .i64 0, .int .i64 0] 93)) := (below_next HF.out.2 b1).alloc (below_next HF.out.2 b1).size _; have n1 : w.heap.size ≤ w1.heap.size := (below_next HF.out.2 b1).size)
    | (go_at_call 68; refine (HLN.out _).mono ?_; rintro e w2 ⟨rfl, b2⟩; have A2 : RI w2 w.heap.size 0 0 (.slice none 0 0) 0 0 := Blk.below A1 b2 (Blk.lt A1); have H2 := Blk.below H1 b2 (Blk.lt H1); have B2 := below_next B1 b2; have q0 : w2.cell? ⟨w1.heap.size, 0, none⟩ = some (.int .i64 (W : Int)) := Blk.cell H2 0; have q1 : w2.cell? ⟨w1.heap.size, 1, none⟩ = some (.int .i64 (H : Int)) := Blk.cell H2 1; have q3 : w2.cell? ⟨w1.heap.size, 3, none⟩ = some (.int .i64 (t : Int)) := Blk.cell H2 3)
    | (go_at_call 69; refine (HBS.out _).mono ?_; rintro e w3 ⟨vp, rfl, P3, b3⟩; obtain ⟨va, vc, hvp⟩ := P3.sl; rw [zpl_len] at hvp; generalize hzl : Z.length = zl at hvp; subst hvp; have H3 := Blk.below H2 b3 (Blk.lt H2); have q0 : w3.cell? ⟨w1.heap.size, 0, none⟩ = some (.int .i64 (W : Int)) := Blk.cell H3 0; have q1 : w3.cell? ⟨w1.heap.size, 1, none⟩ = some (.int .i64 (H : Int)) := Blk.cell H3 1))
  have B3 := below_next B2 b3
  have A4 : RI (w3.alloc (.cells #[.string (strOf (zb8 Z)), .slice va zl vc, .bool sh] 128)) w.heap.size 0 0 (.slice none 0 0) 0 0 := Blk.alloc (Blk.below A2 b3 (Blk.lt A2)) _
  have H4 : Blk (w3.alloc (.cells #[.string (strOf (zb8 Z)), .slice va zl vc, .bool sh] 128)) w1.heap.size 93 (hd7 (W : Int) (H : Int) ((24 : Nat) : Int) (t : Int) (n : Int) 0 0) := Blk.alloc H3 _
  have X4 : Blk (w3.alloc (.cells #[.string (strOf (zb8 Z)), .slice va zl vc, .bool sh] 128)) w3.heap.size 128 #[.string (strOf (zb8 Z)), .slice va zl vc, .bool sh] := Blk.new _ _ _
  have P4 : Owns1 (w3.alloc (.cells #[.string (strOf (zb8 Z)), .slice va zl vc, .bool sh] 128)) w.heap.size 3 (.slice va zl vc) (zpl Z) := Owns1.alloc (World.ownsRow.mono P3 B2.size) _
  have B4 := B3.alloc B3.size (.cells #[.string (strOf (zb8 Z)), .slice va zl vc, .bool sh] 128)
  have n4 : w.heap.size < (w3.alloc (.cells #[.string (strOf (zb8 Z)), .slice va zl vc, .bool sh] 128)).heap.size := by have := B3.size; simp; omega
  generalize w3.alloc (.cells #[.string (strOf (zb8 Z)), .slice va zl vc, .bool sh] 128) = w4 at A4 H4 X4 P4 B4 n4 ⊢
  generalize w3.heap.size = pb at X4 ⊢
  generalize w1.heap.size = ph at H4 ⊢
  clear A1 H1 B1 n1 A2 H2 B2 q0 q1 q3 P3 b1 b2 b3 H3 B3
  have q0 : w4.cell? ⟨ph, 0, none⟩ = some (.int .i64 (W : Int)) := Blk.cell H4 0
  have q1 : w4.cell? ⟨ph, 1, none⟩ = some (.int .i64 (H : Int)) := Blk.cell H4 1
  go_upto_region 10 with fail
  have I0 : SdI w (w4.alloc (.cells #[.int .i64 (W : Int), .int .i64 (H : Int), .slice none 0 0, .int .i64 0, .int .i64 0] 42)) ph pb w4.heap.size W H 24 t n (strOf (zb8 Z)) (.slice va zl vc) (zpl Z) sh (.slice none 0 0) [] :=
    ⟨Blk.alloc A4 _, Blk.alloc H4 _, Blk.alloc X4 _, Blk.new _ _ _, Owns1.alloc P4 _, World.ownsRow_nil _ _ _ _, B4.alloc B4.size _, n4⟩
  generalize w4.alloc (.cells #[.int .i64 (W : Int), .int .i64 (H : Int), .slice none 0 0, .int .i64 0, .int .i64 0] 42) = w5 at I0 ⊢
  generalize w4.heap.size = po at I0 ⊢
  obtain ⟨zs, hzs⟩ : ∃ z, strOf (zb8 Z) = z := ⟨_, rfl⟩
  have hzsz : zs.size = zl := by rw [← hzs, strOf_size, zb8_len, hzl]
  rw [hzs] at I0
  have HI0 := Lib.hid I0
  have HZS := Lib.hid (And.intro hzs hzl)
  have hzszI : (zs.size : Int) = (zl : Int) := by omega
  have hWH : IntKind.i64.wrap ((W : Int) * (H : Int)) = (N : Int) := by rw [← Int.natCast_mul, HFACT.out.2.2.1]; exact IntWalk.i64_in _ (by omega)
  have hzlM : zl ≤ M := by rw [← hzl]; exact hZM
  clear I0 q0 q1 A4 H4 X4 P4 B4 n4 hzs hzl HBS HLN HR HF hpkI hMI hZM
  go_wp2_with fail
  go_loopg [8, 9, 10, 11, 12, 13] N (fun gh v8 v9 v10 v11 v12 v13 wr => ∃ (k : Nat) (v : Value) (L : List Qc), k + gh = N ∧ v8 = .int .i64 (k : Int) ∧ L.length = k ∧ Hid (sunPix2 s ⟨W, H, 24, t, n⟩ Z gh k L = D) ∧ Hid (SdI w wr ph pb po W H 24 t n zs (.slice va zl vc) (zpl Z) sh v L))
  case atStart => exact ⟨0, _, [], by omega, rfl, rfl, HD, HI0⟩
  case round =>
    obtain ⟨k, v, L, hk, rfl, hL, HRUN, HI⟩ := hrel
    clear HI0 HD
    obtain ⟨h0, h1, h2, h3, h4, h5, h6, y0, y1, y2⟩ := HI.out.heads
    have HL := Lib.hid hL
    clear hL
    by_cases hkN : k < N
    · have hkI : (k : Int) < (N : Int) := by omega
      obtain ⟨m, rfl⟩ : ∃ m, gk = m + 1 := ⟨gk - 1, by omega⟩
      have hW0 : ¬ (W : Int) = 0 := by omega
      obtain ⟨x, hx⟩ : ∃ x, k % W = x := ⟨_, rfl⟩
      have hxI : (k : Int) % (W : Int) = (x : Int) := by rw [← Int.natCast_emod, hx]
      have hxW : x < W := by rw [← hx]; exact Nat.mod_lt _ (by omega)
      obtain ⟨y, hy⟩ : ∃ y, k / W = y := ⟨_, rfl⟩
      have hyI : (k : Int) / (W : Int) = (y : Int) := by rw [← Int.natCast_ediv, hy]
      have hyH : y < H := by rw [← hy]; exact Nat.div_lt_of_lt_mul (by rw [HFACT.out.2.2.1]; exact hkN)
      obtain ⟨yl, hyl⟩ : ∃ q, y * ln = q := ⟨_, rfl⟩
      have hylB : yl ≤ 16384 * 65536 := by rw [← hyl]; exact Nat.mul_le_mul (by omega) hlnB
      have hylI : IntKind.i64.wrap ((y : Int) * (ln : Int)) = (yl : Int) := by rw [← Int.natCast_mul, hyl]; exact IntWalk.i64_in _ (by omega)
      obtain ⟨q, hq⟩ : ∃ q, x * 24 / 8 = q := ⟨_, rfl⟩
      have hqI : (x : Int) * 24 / 8 = (q : Int) := by omega
      have hqB : q ≤ 65536 := by omega
      obtain ⟨a, ha⟩ : ∃ a, yl + q = a := ⟨_, rfl⟩
      have haI : (yl : Int) + (q : Int) = (a : Int) := by omega
      obtain ⟨a2, ha2⟩ : ∃ q, a + 3 = q := ⟨_, rfl⟩
      have ha2I : (a : Int) + 3 = (a2 : Int) := by omega
      have hpl : sunPlace ⟨W, H, 24, t, n⟩ k = a := by
        show k / W * sunLine ⟨W, H, 24, t, n⟩ + k % W * 24 / 8 = a
        rw [HFACT.out.2.2.2.1, hx, hy, hyl, hq, ha]
      have hsz : sunSize ⟨W, H, 24, t, n⟩ = 3 := by simp [sunSize]
      have hrun := HRUN.out
      rw [sunPix2, hpl, hsz, ha2, HZS.out.2] at hrun
      rw [show k % (⟨W, H, 24, t, n⟩ : SunHd).W = x from hx] at hrun
      have HFA := Lib.hid (And.intro hpl hsz)
      have hkB : (k : Int) ≤ 268435456 := by omega
      have haB : (a : Int) ≤ 1073807360 := by omega
      clear HRUN hx hy hyl hq hpl hsz
      go_upto_region 14 with fail
      rw [hxI]
      go_cut [84] from 54 to 143 (fun c wx => ∃ j, c = .bool (decide (x = 0 ∧ 0 < k ∧ zl < yl)) ∧ wx = wr.drewN j)
      case first =>
        by_cases hx0 : x = 0
        · have hx0I : (x : Int) = 0 := by omega
          have hx0B : ((x : Int) == 0) = true := by rw [beq_iff_eq]; exact hx0I
          by_cases hk0 : k = 0
          · have hk0B : decide ((0 : Int) < (k : Int)) = false := decide_eq_false (by omega)
            have hk0C : decide (0 < k) = false := decide_eq_false (by omega)
            have hdec := Lib.hid (decide_eq_false (p := x = 0 ∧ 0 < k ∧ zl < yl) (by omega))
            clear hk0 hx0 hx0I
            go_quiet (fail)
            go_wp2_with fail
            go_meet
            case rel => exact ⟨_, congrArg Value.bool hdec.out.symm, rfl⟩
          · have hk0I : (0 : Int) < (k : Int) := by omega
            have hk0N : 0 < k := by omega
            by_cases hzy : zl < yl
            · have hzyI : (zl : Int) < (yl : Int) := by omega
              have hdec := Lib.hid (decide_eq_true (p := x = 0 ∧ 0 < k ∧ zl < yl) (by omega))
              clear hx0 hx0I
              go_quiet (fail)
              go_wp2_with fail
              go_meet
              case rel => exact ⟨_, congrArg Value.bool hdec.out.symm, rfl⟩
            · have hzyI : ¬ (zl : Int) < (yl : Int) := by omega
              have hdec := Lib.hid (decide_eq_false (p := x = 0 ∧ 0 < k ∧ zl < yl) (by omega))
              clear hx0 hx0I
              go_quiet (fail)
              go_wp2_with fail
              go_meet
              case rel => exact ⟨_, congrArg Value.bool hdec.out.symm, rfl⟩
        · have hx0B : ((x : Int) == 0) = false := by rw [beq_eq_false_iff_ne]; omega
          have hdec := Lib.hid (decide_eq_false (p := x = 0 ∧ 0 < k ∧ zl < yl) (by omega))
          go_quiet (fail)
          go_wp2_with fail
          go_meet
          case rel => exact ⟨_, congrArg Value.bool hdec.out.symm, rfl⟩
      case rest =>
        obtain ⟨j, rfl, rfl⟩ := hcut
        by_cases hE : x = 0 ∧ 0 < k ∧ zl < yl
        · rw [if_pos (by omega)] at hrun
          rw [decide_eq_true hE]
          have HRUN := Lib.hid hrun
          clear hrun hE
          go_wp2_with (go_at_call 67; refine (refBadC 1 _ _).mono ?_; rintro e wb ⟨rfl, bb⟩; have IB := (HI.out.drewN _).below bb; obtain ⟨x0, x1, x2, x3, x4, zx0, zx1, zx2, zx3, zx4, xl⟩ := RI.all IB.A)
          exact bodyPost_ret (v := .agg #[.int .i64 0, .int .i64 0, .slice none 0 0, .int .i64 1, .int .i64 (s.size : Int)]) (by simp [results, Tryz.results24, go_sem, x0, x1, x2, x3, x4]) rfl (by rw [show D = DRes.bad 1 s.size from HRUN.out.symm]; exact ⟨Below.st5 IB.B (Nat.le_refl _), rfl⟩)
        · rw [decide_eq_false hE]
          clear hE
          by_cases hz2 : zl < a2
          · have hz2I : (zl : Int) < (a2 : Int) := by omega
            rw [if_pos hz2] at hrun
            have HRUN := Lib.hid hrun
            clear hrun
            go_wp2_with fail
            go_quiet (fail)
            go_wp2_with (go_at_call 67; refine (refBadC 1 _ _).mono ?_; rintro e wb ⟨rfl, bb⟩; have IB := (HI.out.drewN _).below bb; obtain ⟨x0, x1, x2, x3, x4, zx0, zx1, zx2, zx3, zx4, xl⟩ := RI.all IB.A)
            exact bodyPost_ret (v := .agg #[.int .i64 0, .int .i64 0, .slice none 0 0, .int .i64 1, .int .i64 (s.size : Int)]) (by simp [results, Tryz.results24, go_sem, x0, x1, x2, x3, x4]) rfl (by rw [show D = DRes.bad 1 s.size from HRUN.out.symm]; exact ⟨Below.st5 IB.B (Nat.le_refl _), rfl⟩)
          · have hz2I : ¬ (zl : Int) < (a2 : Int) := by omega
            rw [if_neg hz2] at hrun
            have hbs : (zs.extract a a2).size = sunSize ⟨W, H, 24, t, n⟩ := by rw [ByteArray.size_extract, HFA.out.2]; omega
            have HPX0 := fun w => refSunPixel (s := s) (b := zs.extract a a2) (W := W) (H := H) (d := 24) (t := t) (n := n) (x := x) (.inr (.inr (.inl rfl))) hbs hsm hn hs w
            have hcol : sunColB s ⟨W, H, 24, t, n⟩ (zs.extract a a2) x = sunColAt s ⟨W, H, 24, t, n⟩ Z a x := by
              have := sunColB_at (s := s) (h := ⟨W, H, 24, t, n⟩) (Z := Z) (a := a) (x := x) (.inr (.inr (.inl rfl))) HFACT.out.2.2.2.2.2 (by rw [HFA.out.2, HZS.out.2]; omega)
              rw [HFA.out.2, ha2, HZS.out.1] at this
              exact this
            rw [hcol] at HPX0
            generalize sunColAt s ⟨W, H, 24, t, n⟩ Z a x = oc at HPX0 hrun
            have haz : (a : Int) < (zl : Int) := by omega
            have haN : a < zl := by omega
            have hcut1 : (a : Int) ≤ (a2 : Int) := by omega
            have hcut2 : (a2 : Int) ≤ (zl : Int) := by omega
            unfold hdV hd7 at HPX0
            obtain ⟨qc, hqc⟩ : ∃ q, oc.getD ⟨0, 0, 0, 0⟩ = q := ⟨_, rfl⟩
            obtain ⟨qb, hqb⟩ : ∃ q, oc.isSome = q := ⟨_, rfl⟩
            rw [hqc, hqb] at HPX0
            unfold Qc.v at HPX0
            have HPX := Lib.hid HPX0
            have HQQ := Lib.hid (And.intro hqc hqb)
            have HRUN := Lib.hid hrun
            clear hrun HPX0 hqc hqb hbs hcol ha2
            go_wp2_with fail
            go_quiet (fail)
            go_upto_region 22 with fail
            go_cut [12, 13] from 54 to 143 (fun c12 c13 wx => ∃ cb, c12 = .pointer (some ⟨cb, 0, none⟩) ∧ c13 = .bool qb ∧ Hid (SdI w wx ph pb po W H 24 t n zs (.slice va zl vc) (zpl Z) sh v L ∧ Blk wx cb 131 #[.int .u8 (qc.r.toNat : Int), .int .u8 (qc.g.toNat : Int), .int .u8 (qc.b.toNat : Int), .int .u8 (qc.a.toNat : Int)]))
            case first =>
              clear hylI hWH hqI haI
              have hwa : IntKind.i64.wrap (a2 : Int) = (a2 : Int) := IntWalk.i64_in _ (by omega)
              have ha2z : a2 ≤ zl := by omega
              have haa2 : a ≤ a2 := by omega
              refine wp_gen (S := fun wx => SdI w wx ph pb po W H 24 t n zs (.slice va zl vc) (zpl Z) sh v L) (by exact (HI.out.drewN _)) (fun wx hX => ?_)
              have HX := Lib.hid hX
              clear hX
              refine wp_region_held_drew (S := (SdS ph pb W H 24 t n zs)) (by kernel_rfl) HX.out.drew.sds (fun hHeld => ?_)
              refine wpAnyH_take (i := 0) (v := ?_) rfl (by kernel_rfl) (by kernel_rfl) (by kernel_rfl) (fun _ _ _ h => h) (Or.inl ⟨by kernel_rfl, ?_⟩) (by assumption) ?_
              rotate_left
              · intro w hSw; obtain ⟨s0, s1, s2, s3, s4, s5, s6, s7⟩ := hSw; go_simp; (try with_reducible rfl)
              (try simp only [Act.put, List.setIfInBounds_toArray, List.set_cons_zero, List.set_cons_succ])
              refine wpAnyH_take (i := 1) (v := ?_) rfl (by kernel_rfl) (by kernel_rfl) (by kernel_rfl) (fun _ _ _ h => h) (Or.inl ⟨by kernel_rfl, ?_⟩) (by assumption) ?_
              rotate_left
              · intro w hSw; obtain ⟨s0, s1, s2, s3, s4, s5, s6, s7⟩ := hSw; go_simp; (try with_reducible rfl)
              (try simp only [Act.put, List.setIfInBounds_toArray, List.set_cons_zero, List.set_cons_succ])
              refine wpAnyH_take (i := 2) (v := ?_) rfl (by kernel_rfl) (by kernel_rfl) (by kernel_rfl) (fun _ _ _ h => h) (Or.inl ⟨by kernel_rfl, ?_⟩) (by assumption) ?_
              rotate_left
              · intro w hSw; obtain ⟨s0, s1, s2, s3, s4, s5, s6, s7⟩ := hSw; go_simp; (try with_reducible rfl)
              (try simp only [Act.put, List.setIfInBounds_toArray, List.set_cons_zero, List.set_cons_succ])
              refine wpAnyH_take (i := 3) (v := ?_) rfl (by kernel_rfl) (by kernel_rfl) (by kernel_rfl) (fun _ _ _ h => h) (Or.inl ⟨by kernel_rfl, ?_⟩) (by assumption) ?_
              rotate_left
              · intro w hSw; obtain ⟨s0, s1, s2, s3, s4, s5, s6, s7⟩ := hSw; go_simp; (try with_reducible rfl)
              (try simp only [Act.put, List.setIfInBounds_toArray, List.set_cons_zero, List.set_cons_succ])
              refine wpAnyH_take (i := 4) (v := ?_) rfl (by kernel_rfl) (by kernel_rfl) (by kernel_rfl) (fun _ _ _ h => h) (Or.inl ⟨by kernel_rfl, ?_⟩) (by assumption) ?_
              rotate_left
              · intro w hSw; obtain ⟨s0, s1, s2, s3, s4, s5, s6, s7⟩ := hSw; go_simp; (try with_reducible rfl)
              (try simp only [Act.put, List.setIfInBounds_toArray, List.set_cons_zero, List.set_cons_succ])
              refine wpAnyH_take (i := 5) (v := ?_) rfl (by kernel_rfl) (by kernel_rfl) (by kernel_rfl) (fun _ _ _ h => h) (Or.inl ⟨by kernel_rfl, ?_⟩) (by assumption) ?_
              rotate_left
              · intro w hSw; obtain ⟨s0, s1, s2, s3, s4, s5, s6, s7⟩ := hSw; go_simp; (try with_reducible rfl)
              (try simp only [Act.put, List.setIfInBounds_toArray, List.set_cons_zero, List.set_cons_succ])
              refine wpAnyH_take (i := 6) (v := ?_) rfl (by kernel_rfl) (by kernel_rfl) (by kernel_rfl) (fun _ _ _ h => h) (Or.inl ⟨by kernel_rfl, ?_⟩) (by assumption) ?_
              rotate_left
              · intro w hSw; obtain ⟨s0, s1, s2, s3, s4, s5, s6, s7⟩ := hSw; go_simp; (try with_reducible rfl)
              (try simp only [Act.put, List.setIfInBounds_toArray, List.set_cons_zero, List.set_cons_succ])
              refine wpAnyH_take (i := 7) (v := ?_) rfl (by kernel_rfl) (by kernel_rfl) (by kernel_rfl) (fun _ _ _ h => h) (Or.inl ⟨by kernel_rfl, ?_⟩) (by assumption) ?_
              rotate_left
              · intro w hSw; obtain ⟨s0, s1, s2, s3, s4, s5, s6, s7⟩ := hSw; go_simp; (try with_reducible rfl)
              (try simp only [Act.put, List.setIfInBounds_toArray, List.set_cons_zero, List.set_cons_succ])
              refine wpAnyH_take (i := 8) (v := ?_) rfl (by kernel_rfl) (by kernel_rfl) (by kernel_rfl) (fun _ _ _ h => h) (Or.inl ⟨by kernel_rfl, ?_⟩) (by assumption) ?_
              rotate_left
              · intro w hSw; obtain ⟨s0, s1, s2, s3, s4, s5, s6, s7⟩ := hSw; go_simp; (try with_reducible rfl)
              (try simp only [Act.put, List.setIfInBounds_toArray, List.set_cons_zero, List.set_cons_succ])
              refine wpAnyH_take (i := 9) (v := ?_) rfl (by kernel_rfl) (by kernel_rfl) (by kernel_rfl) (fun _ _ _ h => h) (Or.inl ⟨by kernel_rfl, ?_⟩) (by assumption) ?_
              rotate_left
              · intro w hSw; obtain ⟨s0, s1, s2, s3, s4, s5, s6, s7⟩ := hSw; go_simp; (try with_reducible rfl)
              (try simp only [Act.put, List.setIfInBounds_toArray, List.set_cons_zero, List.set_cons_succ])
              refine wpAnyH_ready (rs := [10, 14]) (by kernel_rfl) (by simp) ?_
              refine AllReadyH.cons rfl (fun K hK => ?_) (AllReadyH.cons rfl (fun K hK => ?_) AllReadyH.nil)
              · go_simp
                refine (HPX.out _).mono ?_
                rintro e w8 ⟨rfl, b8⟩
                have I8 := HX.out.drew.below b8
                refine hK.out _ _ I8.sds (fun hHeld' => ?_)
                clear hK K hHeld
                have hHeld := hHeld'
                clear hHeld'
                (try simp only [Act.put, List.setIfInBounds_toArray, List.set_cons_zero, List.set_cons_succ])
                refine wpAnyH_take (i := 11) (v := ?_) rfl (by kernel_rfl) (by kernel_rfl) (by kernel_rfl) (fun _ _ _ h => h) (Or.inl ⟨by kernel_rfl, ?_⟩) (by assumption) ?_
                rotate_left
                · intro w hSw; obtain ⟨s0, s1, s2, s3, s4, s5, s6, s7⟩ := hSw; go_simp; (try with_reducible rfl)
                (try simp only [Act.put, List.setIfInBounds_toArray, List.set_cons_zero, List.set_cons_succ])
                refine wpAnyH_take (i := 12) (v := ?_) rfl (by kernel_rfl) (by kernel_rfl) (by kernel_rfl) (fun _ _ _ h => h) (Or.inl ⟨by kernel_rfl, ?_⟩) (by assumption) ?_
                rotate_left
                · intro w hSw; obtain ⟨s0, s1, s2, s3, s4, s5, s6, s7⟩ := hSw; go_simp; (try with_reducible rfl)
                (try simp only [Act.put, List.setIfInBounds_toArray, List.set_cons_zero, List.set_cons_succ])
                refine wpAnyH_take (i := 13) (v := ?_) rfl (by kernel_rfl) (by kernel_rfl) (by kernel_rfl) (fun _ _ _ h => h) (Or.inl ⟨by kernel_rfl, ?_⟩) (by assumption) ?_
                rotate_left
                · intro w hSw; obtain ⟨s0, s1, s2, s3, s4, s5, s6, s7⟩ := hSw; go_simp; (try with_reducible rfl)
                (try simp only [Act.put, List.setIfInBounds_toArray, List.set_cons_zero, List.set_cons_succ])
                refine wpAnyH_ready (rs := [14]) (by kernel_rfl) (by simp) ?_
                refine AllReadyH.cons rfl (fun K hK => ?_) AllReadyH.nil
                go_simp
                have n9 := b8.size
                have b9 := b8.alloc b8.size (.cells #[.int .u8 0, .int .u8 0, .int .u8 0, .int .u8 0] 131)
                have I9 := I8.alloc (.cells #[.int .u8 0, .int .u8 0, .int .u8 0, .int .u8 0] 131)
                have C9 : Blk (w8.alloc (.cells #[.int .u8 0, .int .u8 0, .int .u8 0, .int .u8 0] 131)) w8.heap.size 131 #[.int .u8 0, .int .u8 0, .int .u8 0, .int .u8 0] := Blk.new _ _ _
                generalize w8.alloc (.cells #[.int .u8 0, .int .u8 0, .int .u8 0, .int .u8 0] 131) = w9 at b9 I9 C9 ⊢
                generalize w8.heap.size = cb at n9 C9 ⊢
                obtain ⟨l0, l1, l2, l3, z0, z1, z2, z3, ll⟩ := col4_all C9
                refine hK.out _ _ I9.sds (fun hHeld' => ?_)
                clear hK K hHeld
                have hHeld := hHeld'
                clear hHeld'
                (try simp only [Act.put, List.setIfInBounds_toArray, List.set_cons_zero, List.set_cons_succ])
                refine wpAnyH_ready (rs := [15]) (by kernel_rfl) (by simp) ?_
                refine AllReadyH.cons rfl (fun K hK => ?_) AllReadyH.nil
                go_simp
                have IF := SdI.lay4 (cb := cb) (u0 := .int .u8 (qc.r.toNat : Int)) (u1 := .int .u8 (qc.g.toNat : Int)) (u2 := .int .u8 (qc.b.toNat : Int)) (u3 := .int .u8 (qc.a.toNat : Int)) HX.out.drew b9 n9
                have CF := col4 (u0 := .int .u8 (qc.r.toNat : Int)) (u1 := .int .u8 (qc.g.toNat : Int)) (u2 := .int .u8 (qc.b.toNat : Int)) (u3 := .int .u8 (qc.a.toNat : Int)) C9
                refine hK.out _ _ IF.sds (fun hHeld' => ?_)
                clear hK K hHeld
                have hHeld := hHeld'
                clear hHeld'
                (try simp only [Act.put, List.setIfInBounds_toArray, List.set_cons_zero, List.set_cons_succ])
                refine wpAnyH_take (i := 16) (v := ?_) rfl (by kernel_rfl) (by kernel_rfl) (by kernel_rfl) (fun _ _ _ h => h) (Or.inl ⟨by kernel_rfl, ?_⟩) (by assumption) ?_
                rotate_left
                · intro w hSw; obtain ⟨s0, s1, s2, s3, s4, s5, s6, s7⟩ := hSw; go_simp; (try with_reducible rfl)
                (try simp only [Act.put, List.setIfInBounds_toArray, List.set_cons_zero, List.set_cons_succ])
                refine wpAnyH_done (by kernel_rfl) ?_ _
                (try simp only [List.getElem_toArray, List.getElem_cons_succ, List.getElem_cons_zero, List.set_cons_zero, List.set_cons_succ])
                go_wp2_with fail
                go_meet
                case rel => exact ⟨cb, rfl, rfl, Lib.hid ⟨IF, CF⟩⟩
              · go_simp
                have b7 : Below wx.heap.size wx (wx.alloc (.cells #[.int .u8 0, .int .u8 0, .int .u8 0, .int .u8 0] 131)).drew := ((Below.refl wx.heap.size wx).alloc (Nat.le_refl _) _).drew
                have C7 : Blk (wx.alloc (.cells #[.int .u8 0, .int .u8 0, .int .u8 0, .int .u8 0] 131)).drew wx.heap.size 131 #[.int .u8 0, .int .u8 0, .int .u8 0, .int .u8 0] := Blk.drew (Blk.new wx _ _)
                generalize (wx.alloc (.cells #[.int .u8 0, .int .u8 0, .int .u8 0, .int .u8 0] 131)).drew = w7 at b7 C7 ⊢
                generalize hcb : wx.heap.size = cb at C7 ⊢
                have n9 := Nat.le_of_eq hcb
                have I7 := HX.out.below b7
                refine hK.out _ _ I7.sds (fun hHeld' => ?_)
                clear hK K hHeld
                have hHeld := hHeld'
                clear hHeld'
                (try simp only [Act.put, List.setIfInBounds_toArray, List.set_cons_zero, List.set_cons_succ])
                refine wpAnyH_ready (rs := [10]) (by kernel_rfl) (by simp) ?_
                refine AllReadyH.cons rfl (fun K hK => ?_) AllReadyH.nil
                go_simp
                refine (HPX.out _).mono ?_
                rintro e w8 ⟨rfl, b8⟩
                have I8 := I7.below b8
                have C9 := Blk.below C7 b8 (Blk.lt C7)
                have b9 : Below wx.heap.size wx w8 := b7.trans (b8.mono b7.size)
                obtain ⟨l0, l1, l2, l3, z0, z1, z2, z3, ll⟩ := col4_all C9
                refine hK.out _ _ I8.sds (fun hHeld' => ?_)
                clear hK K hHeld
                have hHeld := hHeld'
                clear hHeld'
                (try simp only [Act.put, List.setIfInBounds_toArray, List.set_cons_zero, List.set_cons_succ])
                refine wpAnyH_take (i := 11) (v := ?_) rfl (by kernel_rfl) (by kernel_rfl) (by kernel_rfl) (fun _ _ _ h => h) (Or.inl ⟨by kernel_rfl, ?_⟩) (by assumption) ?_
                rotate_left
                · intro w hSw; obtain ⟨s0, s1, s2, s3, s4, s5, s6, s7⟩ := hSw; go_simp; (try with_reducible rfl)
                (try simp only [Act.put, List.setIfInBounds_toArray, List.set_cons_zero, List.set_cons_succ])
                refine wpAnyH_take (i := 12) (v := ?_) rfl (by kernel_rfl) (by kernel_rfl) (by kernel_rfl) (fun _ _ _ h => h) (Or.inl ⟨by kernel_rfl, ?_⟩) (by assumption) ?_
                rotate_left
                · intro w hSw; obtain ⟨s0, s1, s2, s3, s4, s5, s6, s7⟩ := hSw; go_simp; (try with_reducible rfl)
                (try simp only [Act.put, List.setIfInBounds_toArray, List.set_cons_zero, List.set_cons_succ])
                refine wpAnyH_take (i := 13) (v := ?_) rfl (by kernel_rfl) (by kernel_rfl) (by kernel_rfl) (fun _ _ _ h => h) (Or.inl ⟨by kernel_rfl, ?_⟩) (by assumption) ?_
                rotate_left
                · intro w hSw; obtain ⟨s0, s1, s2, s3, s4, s5, s6, s7⟩ := hSw; go_simp; (try with_reducible rfl)
                (try simp only [Act.put, List.setIfInBounds_toArray, List.set_cons_zero, List.set_cons_succ])
                refine wpAnyH_ready (rs := [15]) (by kernel_rfl) (by simp) ?_
                refine AllReadyH.cons rfl (fun K hK => ?_) AllReadyH.nil
                go_simp
                have IF := SdI.lay4 (cb := cb) (u0 := .int .u8 (qc.r.toNat : Int)) (u1 := .int .u8 (qc.g.toNat : Int)) (u2 := .int .u8 (qc.b.toNat : Int)) (u3 := .int .u8 (qc.a.toNat : Int)) HX.out b9 n9
                have CF := col4 (u0 := .int .u8 (qc.r.toNat : Int)) (u1 := .int .u8 (qc.g.toNat : Int)) (u2 := .int .u8 (qc.b.toNat : Int)) (u3 := .int .u8 (qc.a.toNat : Int)) C9
                refine hK.out _ _ IF.sds (fun hHeld' => ?_)
                clear hK K hHeld
                have hHeld := hHeld'
                clear hHeld'
                (try simp only [Act.put, List.setIfInBounds_toArray, List.set_cons_zero, List.set_cons_succ])
                refine wpAnyH_take (i := 16) (v := ?_) rfl (by kernel_rfl) (by kernel_rfl) (by kernel_rfl) (fun _ _ _ h => h) (Or.inl ⟨by kernel_rfl, ?_⟩) (by assumption) ?_
                rotate_left
                · intro w hSw; obtain ⟨s0, s1, s2, s3, s4, s5, s6, s7⟩ := hSw; go_simp; (try with_reducible rfl)
                (try simp only [Act.put, List.setIfInBounds_toArray, List.set_cons_zero, List.set_cons_succ])
                refine wpAnyH_done (by kernel_rfl) ?_ _
                (try simp only [List.getElem_toArray, List.getElem_cons_succ, List.getElem_cons_zero, List.set_cons_zero, List.set_cons_succ])
                go_wp2_with fail
                go_meet
                case rel => exact ⟨cb, rfl, rfl, Lib.hid ⟨IF, CF⟩⟩
            case rest =>
              obtain ⟨cb, rfl, rfl, HJ⟩ := hcut
              clear hylI hWH hqI haI h0 h1 h2 h3 h4 y0 y1 y2 HPX
              obtain ⟨hqc, hqb⟩ := HQQ.out
              cases oc with
              | none =>
                obtain rfl : qb = false := hqb.symm
                obtain ⟨gp, hva⟩ : ∃ g, va = some ⟨g, 0, none⟩ := by
                  rcases HJ.out.1.P.form with ⟨e, _⟩ | ⟨g, cap, e, _⟩
                  · injection e with e1 e2 e3; omega
                  · injection e with e1 e2 e3; exact ⟨g, e1⟩
                subst hva
                have hplace : wc.cell? ⟨gp, a, none⟩ = some (.int .i64 (zp Z a : Int)) := by
                  rcases HJ.out.1.P.form with ⟨e, _⟩ | ⟨g, cap, e, _, _, _, _, hc⟩
                  · cases e
                  · injection e with e1 e2 e3
                    injection e1 with e1
                    injection e1 with e1
                    subst e1
                    have hl : a < Z.length := by rw [HZS.out.2]; exact haN
                    rw [hc a (by rw [zpl_len]; exact hl)]
                    unfold zpl zp
                    rw [List.getElem?_map, List.getElem?_eq_getElem hl, List.getD_eq_getElem?_getD, List.getElem?_eq_getElem hl]
                    rfl
                obtain ⟨pz, hpz⟩ : ∃ p, zp Z a = p := ⟨_, rfl⟩
                have hrun := HRUN.out
                simp only at hrun
                rw [hpz] at hplace hrun
                have HR2 := Lib.hid hrun
                have y1 : wc.cell? ⟨pb, 1, none⟩ = some (.slice (some ⟨gp, 0, none⟩) zl vc) := HJ.out.1.heads.2.2.2.2.2.2.2.2.1
                clear hrun hpz HRUN HQQ
                go_wp2_with (go_at_call 67; refine (refBadC 2 _ _).mono ?_; rintro e wb ⟨rfl, bb⟩; have IB := HJ.out.1.below bb; obtain ⟨x0, x1, x2, x3, x4, zx0, zx1, zx2, zx3, zx4, xl⟩ := RI.all IB.A)
                exact bodyPost_ret (v := .agg #[.int .i64 0, .int .i64 0, .slice none 0 0, .int .i64 2, .int .i64 (pz : Int)]) (by simp [results, Tryz.results24, go_sem, x0, x1, x2, x3, x4]) rfl (by rw [show D = DRes.bad 2 pz from HR2.out.symm]; exact ⟨Below.st5 IB.B (Nat.le_refl _), rfl⟩)
              | some c =>
                obtain rfl : qb = true := hqb.symm
                obtain rfl : c = qc := hqc
                have hrun := HRUN.out
                simp only at hrun
                have HR2 := Lib.hid hrun
                obtain ⟨l0, l1, l2, l3, z0, z1, z2, z3, ll⟩ := col4_all HJ.out.2
                obtain ⟨X0, X1, X2, X3, X4, zX0, zX1, zX2, zX3, zX4, Xl⟩ := RI.all HJ.out.1.X
                have hll : L.length + ([c] : List Qc).length < 1099511627776 := by rw [HL.out]; simp; omega
                have hbz : w.heap.size ≤ (wc.alloc (.cells #[.int .u8 (c.r.toNat : Int), .int .u8 (c.g.toNat : Int), .int .u8 (c.b.toNat : Int), .int .u8 (c.a.toNat : Int)] 131)).heap.size := by have := HJ.out.1.B.size; simp; omega
                clear hrun HRUN HQQ
                go_wp2_with (at_builtin; refine wpList_append_cols rfl (.tmp 139) (.tmp 141) rfl w.heap.size v L rfl (HJ.out.1.O.alloc _) wc.heap.size 1 1 [c] rfl rfl (q_new wc c) hll hbz ?_; intro v6 w6 o6 b6 g6; have IG := SdI.grow (HJ.out.1.alloc _) o6 b6 g6; have X6 : RI w6 po (W : Int) (H : Int) v 0 0 := Blk.grownQ (Blk.alloc HJ.out.1.X _) (HJ.out.1.O.alloc _) (by decide) g6; obtain ⟨a6, c6, hv6⟩ := o6.slice; generalize hn6 : (L ++ [c]).length = n6 at hv6; subst hv6; clear X0 X1 X2 X3 X4 zX0 zX1 zX2 zX3 zX4 Xl l0 l1 l2 l3 z0 z1 z2 z3 ll; obtain ⟨X0, X1, X2, X3, X4, zX0, zX1, zX2, zX3, zX4, Xl⟩ := RI.all X6)
                have HG := Lib.hid IG
                have HN6 := Lib.hid hn6
                clear IG X6 o6 b6 g6 X0 X1 X2 X3 X4 zX0 zX1 zX2 zX3 zX4 Xl hn6 hll hbz
                go_roundg m
                case measure => omega
                case rel => exact ⟨k + 1, _, L ++ [c], by omega, by go_num, by rw [List.length_append, HL.out]; rfl, HR2, HG⟩
    · obtain rfl : k = N := by omega
      obtain rfl : gk = 0 := by omega
      have hkI : ¬ (k : Int) < (k : Int) := by omega
      have hrun := HRUN.out
      rw [sunPix2] at hrun
      have hM : sunLine ⟨W, H, 24, t, n⟩ * (⟨W, H, 24, t, n⟩ : SunHd).H = M := by rw [HFACT.out.2.2.2.1]; exact HFACT.out.2.1
      rw [hM] at hrun
      have hsh := HFACT.out.2.2.2.2.1
      by_cases hz : Z.length < M
      · rw [if_pos hz] at hrun
        rw [decide_eq_true hz] at hsh
        subst hsh
        have HR2 := Lib.hid hrun
        clear hrun HRUN hM hz
        go_wp2_with (go_at_call 67; refine (refBadC 1 _ _).mono ?_; rintro e wb ⟨rfl, bb⟩; have IB := HI.out.below bb; obtain ⟨x0, x1, x2, x3, x4, zx0, zx1, zx2, zx3, zx4, xl⟩ := RI.all IB.A)
        exact bodyPost_ret (v := .agg #[.int .i64 0, .int .i64 0, .slice none 0 0, .int .i64 1, .int .i64 (s.size : Int)]) (by simp [results, Tryz.results24, go_sem, x0, x1, x2, x3, x4]) rfl (by rw [show D = DRes.bad 1 s.size from HR2.out.symm]; exact ⟨Below.st5 IB.B (Nat.le_refl _), rfl⟩)
      · rw [if_neg hz] at hrun
        rw [decide_eq_false hz] at hsh
        subst hsh
        have HR2 := Lib.hid hrun
        obtain ⟨va', vc', hv⟩ := HI.out.O.slice
        generalize L.length = ll at hv
        subst hv
        obtain ⟨x0, x1, x2, x3, x4, zx0, zx1, zx2, zx3, zx4, xl⟩ := RI.all HI.out.A
        obtain ⟨X0, X1, X2, X3, X4, zX0, zX1, zX2, zX3, zX4, Xl⟩ := RI.all HI.out.X
        have HNN := HFACT.out.2.2.1
        clear hrun HRUN hM hz
        go_wp2_with fail
        exact bodyPost_ret (v := .agg #[.int .i64 (W : Int), .int .i64 (H : Int), .slice va' ll vc', .int .i64 0, .int .i64 0]) (by simp [results, Tryz.results24, go_sem, x0, x1, x2, x3, x4]) rfl (by rw [show D = DRes.img W H (flat L) from HR2.out.symm]; exact ⟨HI.out.outs.1, _, L, rfl, HI.out.outs.2, rfl, by rw [HL.out, HNN]⟩)
set_option maxRecDepth 100000 in
set_option maxHeartbeats 8000000 in
theorem refSunDec32 {s : ByteArray} {W H t n : Nat} {D : DRes} (hsm : s.size ≤ 1099511627776) (hs : 32 + 3 * n ≤ s.size) (hW : 1 ≤ W ∧ W ≤ 16384) (hH : 1 ≤ H ∧ H ≤ 16384) (hn : n ≤ 256) (hR : sunRdV s = hdV (W : Int) (H : Int) ((32 : Nat) : Int) (t : Int) (n : Int) 0 0)
    (hD : sunPix2 s ⟨W, H, 32, t, n⟩ (sunZ s ⟨W, H, 32, t, n⟩) (W * H) 0 [] = D) (w : World) : Calls Tryz.prog 24 #[.string s] w fun e w' => RefPost D w w' e := by
  obtain ⟨F0, B0⟩ := ri_new w
  have HR := Lib.hid (fun w => refSunReadC hsm w)
  rw [hR] at HR
  unfold hdV hd7 at HR
  have HLN := Lib.hid (fun w => refSunLine (W := W) (H := H) (d := 32) (t := t) (n := n) hW.2 (by omega) w)
  unfold hdV hd7 at HLN
  obtain ⟨ln, hln⟩ : ∃ l, (W * 32 + 15) / 16 * 2 = l := ⟨_, rfl⟩
  rw [hln] at HLN
  have hlnB : ln ≤ 65536 := by omega
  have hlW : (W * 32 + 7) / 8 ≤ ln := by omega
  have hSL : sunLine ⟨W, H, 32, t, n⟩ = ln := hln
  obtain ⟨M, hM⟩ : ∃ M, ln * H = M := ⟨_, rfl⟩
  have hMB : M ≤ 65536 * 16384 := by rw [← hM]; exact Nat.mul_le_mul hlnB hH.2
  obtain ⟨N, hN⟩ : ∃ N, W * H = N := ⟨_, rfl⟩
  have hNB : N ≤ 16384 * 16384 := by rw [← hN]; exact Nat.mul_le_mul hW.2 hH.2
  obtain ⟨a0, ha0⟩ : ∃ a, 32 + 3 * n = a := ⟨_, rfl⟩
  have ha0I : 32 + 3 * (n : Int) = (a0 : Int) := by omega
  have ha0s : ¬ (s.size : Int) < (a0 : Int) := by omega
  have ha0N : ¬ s.size < a0 := by omega
  obtain ⟨pk, hpk⟩ : ∃ pk, decide (t = 2) = pk := ⟨_, rfl⟩
  have hpkI : ((t : Int) == 2) = pk := by rw [← hpk]; by_cases h : t = 2 <;> simp [h] <;> omega
  obtain ⟨Z, hZ⟩ : ∃ Z, sunZ s ⟨W, H, 32, t, n⟩ = Z := ⟨_, rfl⟩
  have hZE : sunExp s pk M ⟨a0, 0, 0, 0⟩ = Z := by rw [← hZ, ← hpk, ← ha0, ← hM, ← hSL]; rfl
  have hZlt : ∀ x ∈ Z, x.1 < 256 := by rw [← hZE]; exact sunExp_lt M (show 0 < 256 by decide)
  have hZM : Z.length ≤ M := by rw [← hZE]; exact sunExp_len M
  obtain ⟨sh, hsh⟩ : ∃ sh, decide (Z.length < M) = sh := ⟨_, rfl⟩
  have HBS := Lib.hid (fun w => refSunBytes (s := s) (a := a0) (n := M) (pk := pk) hsm (by omega) (by omega) hZE hsh w)
  rw [hZ, hN] at hD
  have HD := Lib.hid hD
  have HF := Lib.hid (And.intro F0 B0)
  have hMI : IntKind.i64.wrap ((ln : Int) * (H : Int)) = (M : Int) := by rw [← Int.natCast_mul, hM]; exact IntWalk.i64_in _ (by omega)
  have HFACT := Lib.hid (And.intro hln (And.intro hM (And.intro hN (And.intro hSL (And.intro hsh hZlt)))))
  clear hR hD hZE hZlt hpk hln hM hSL hZ hsh F0 B0 ha0
  go_enter Tryz.func24, Tryz.ntmps24
  go_upto_region 9 with (first
    | (go_at_call 58; refine (HR.out _).mono ?_; rintro e w1 ⟨rfl, b1⟩; have A1 : RI (w1.alloc (.cells #[.int .i64 (W : Int), .int .i64 (H : Int), .int .i64 ((32 : Nat) : Int), .int .i64 (t : Int), .int .i64 (n : Int), .int .i64 0, .int .i64 0] 93)) w.heap.size 0 0 (.slice none 0 0) 0 0 := Blk.alloc (Blk.below HF.out.1 b1 (Blk.lt HF.out.1)) _; have H1 : Blk (w1.alloc (.cells #[.int .i64 (W : Int), .int .i64 (H : Int), .int .i64 ((32 : Nat) : Int), .int .i64 (t : Int), .int .i64 (n : Int), .int .i64 0, .int .i64 0] 93)) w1.heap.size 93 (hd7 (W : Int) (H : Int) ((32 : Nat) : Int) (t : Int) (n : Int) 0 0) := Blk.new _ _ _; have B1 : Below w.heap.size w (w1.alloc (.cells #[.int .i64 (W : Int), .int .i64 (H : Int), .int .i64 ((32 : Nat) : Int), .int .i64 (t : Int), .int .i64 (n : Int), .int .i64 0, .int .i64 0] 93)) := (below_next HF.out.2 b1).alloc (below_next HF.out.2 b1).size _; have n1 : w.heap.size ≤ w1.heap.size := (below_next HF.out.2 b1).size)
    | (go_at_call 68; refine (HLN.out _).mono ?_; rintro e w2 ⟨rfl, b2⟩; have A2 : RI w2 w.heap.size 0 0 (.slice none 0 0) 0 0 := Blk.below A1 b2 (Blk.lt A1); have H2 := Blk.below H1 b2 (Blk.lt H1); have B2 := below_next B1 b2; have q0 : w2.cell? ⟨w1.heap.size, 0, none⟩ = some (.int .i64 (W : Int)) := Blk.cell H2 0; have q1 : w2.cell? ⟨w1.heap.size, 1, none⟩ = some (.int .i64 (H : Int)) := Blk.cell H2 1; have q3 : w2.cell? ⟨w1.heap.size, 3, none⟩ = some (.int .i64 (t : Int)) := Blk.cell H2 3)
    | (go_at_call 69; refine (HBS.out _).mono ?_; rintro e w3 ⟨vp, rfl, P3, b3⟩; obtain ⟨va, vc, hvp⟩ := P3.sl; rw [zpl_len] at hvp; generalize hzl : Z.length = zl at hvp; subst hvp; have H3 := Blk.below H2 b3 (Blk.lt H2); have q0 : w3.cell? ⟨w1.heap.size, 0, none⟩ = some (.int .i64 (W : Int)) := Blk.cell H3 0; have q1 : w3.cell? ⟨w1.heap.size, 1, none⟩ = some (.int .i64 (H : Int)) := Blk.cell H3 1))
  have B3 := below_next B2 b3
  have A4 : RI (w3.alloc (.cells #[.string (strOf (zb8 Z)), .slice va zl vc, .bool sh] 128)) w.heap.size 0 0 (.slice none 0 0) 0 0 := Blk.alloc (Blk.below A2 b3 (Blk.lt A2)) _
  have H4 : Blk (w3.alloc (.cells #[.string (strOf (zb8 Z)), .slice va zl vc, .bool sh] 128)) w1.heap.size 93 (hd7 (W : Int) (H : Int) ((32 : Nat) : Int) (t : Int) (n : Int) 0 0) := Blk.alloc H3 _
  have X4 : Blk (w3.alloc (.cells #[.string (strOf (zb8 Z)), .slice va zl vc, .bool sh] 128)) w3.heap.size 128 #[.string (strOf (zb8 Z)), .slice va zl vc, .bool sh] := Blk.new _ _ _
  have P4 : Owns1 (w3.alloc (.cells #[.string (strOf (zb8 Z)), .slice va zl vc, .bool sh] 128)) w.heap.size 3 (.slice va zl vc) (zpl Z) := Owns1.alloc (World.ownsRow.mono P3 B2.size) _
  have B4 := B3.alloc B3.size (.cells #[.string (strOf (zb8 Z)), .slice va zl vc, .bool sh] 128)
  have n4 : w.heap.size < (w3.alloc (.cells #[.string (strOf (zb8 Z)), .slice va zl vc, .bool sh] 128)).heap.size := by have := B3.size; simp; omega
  generalize w3.alloc (.cells #[.string (strOf (zb8 Z)), .slice va zl vc, .bool sh] 128) = w4 at A4 H4 X4 P4 B4 n4 ⊢
  generalize w3.heap.size = pb at X4 ⊢
  generalize w1.heap.size = ph at H4 ⊢
  clear A1 H1 B1 n1 A2 H2 B2 q0 q1 q3 P3 b1 b2 b3 H3 B3
  have q0 : w4.cell? ⟨ph, 0, none⟩ = some (.int .i64 (W : Int)) := Blk.cell H4 0
  have q1 : w4.cell? ⟨ph, 1, none⟩ = some (.int .i64 (H : Int)) := Blk.cell H4 1
  go_upto_region 10 with fail
  have I0 : SdI w (w4.alloc (.cells #[.int .i64 (W : Int), .int .i64 (H : Int), .slice none 0 0, .int .i64 0, .int .i64 0] 42)) ph pb w4.heap.size W H 32 t n (strOf (zb8 Z)) (.slice va zl vc) (zpl Z) sh (.slice none 0 0) [] :=
    ⟨Blk.alloc A4 _, Blk.alloc H4 _, Blk.alloc X4 _, Blk.new _ _ _, Owns1.alloc P4 _, World.ownsRow_nil _ _ _ _, B4.alloc B4.size _, n4⟩
  generalize w4.alloc (.cells #[.int .i64 (W : Int), .int .i64 (H : Int), .slice none 0 0, .int .i64 0, .int .i64 0] 42) = w5 at I0 ⊢
  generalize w4.heap.size = po at I0 ⊢
  obtain ⟨zs, hzs⟩ : ∃ z, strOf (zb8 Z) = z := ⟨_, rfl⟩
  have hzsz : zs.size = zl := by rw [← hzs, strOf_size, zb8_len, hzl]
  rw [hzs] at I0
  have HI0 := Lib.hid I0
  have HZS := Lib.hid (And.intro hzs hzl)
  have hzszI : (zs.size : Int) = (zl : Int) := by omega
  have hWH : IntKind.i64.wrap ((W : Int) * (H : Int)) = (N : Int) := by rw [← Int.natCast_mul, HFACT.out.2.2.1]; exact IntWalk.i64_in _ (by omega)
  have hzlM : zl ≤ M := by rw [← hzl]; exact hZM
  clear I0 q0 q1 A4 H4 X4 P4 B4 n4 hzs hzl HBS HLN HR HF hpkI hMI hZM
  go_wp2_with fail
  go_loopg [8, 9, 10, 11, 12, 13] N (fun gh v8 v9 v10 v11 v12 v13 wr => ∃ (k : Nat) (v : Value) (L : List Qc), k + gh = N ∧ v8 = .int .i64 (k : Int) ∧ L.length = k ∧ Hid (sunPix2 s ⟨W, H, 32, t, n⟩ Z gh k L = D) ∧ Hid (SdI w wr ph pb po W H 32 t n zs (.slice va zl vc) (zpl Z) sh v L))
  case atStart => exact ⟨0, _, [], by omega, rfl, rfl, HD, HI0⟩
  case round =>
    obtain ⟨k, v, L, hk, rfl, hL, HRUN, HI⟩ := hrel
    clear HI0 HD
    obtain ⟨h0, h1, h2, h3, h4, h5, h6, y0, y1, y2⟩ := HI.out.heads
    have HL := Lib.hid hL
    clear hL
    by_cases hkN : k < N
    · have hkI : (k : Int) < (N : Int) := by omega
      obtain ⟨m, rfl⟩ : ∃ m, gk = m + 1 := ⟨gk - 1, by omega⟩
      have hW0 : ¬ (W : Int) = 0 := by omega
      obtain ⟨x, hx⟩ : ∃ x, k % W = x := ⟨_, rfl⟩
      have hxI : (k : Int) % (W : Int) = (x : Int) := by rw [← Int.natCast_emod, hx]
      have hxW : x < W := by rw [← hx]; exact Nat.mod_lt _ (by omega)
      obtain ⟨y, hy⟩ : ∃ y, k / W = y := ⟨_, rfl⟩
      have hyI : (k : Int) / (W : Int) = (y : Int) := by rw [← Int.natCast_ediv, hy]
      have hyH : y < H := by rw [← hy]; exact Nat.div_lt_of_lt_mul (by rw [HFACT.out.2.2.1]; exact hkN)
      obtain ⟨yl, hyl⟩ : ∃ q, y * ln = q := ⟨_, rfl⟩
      have hylB : yl ≤ 16384 * 65536 := by rw [← hyl]; exact Nat.mul_le_mul (by omega) hlnB
      have hylI : IntKind.i64.wrap ((y : Int) * (ln : Int)) = (yl : Int) := by rw [← Int.natCast_mul, hyl]; exact IntWalk.i64_in _ (by omega)
      obtain ⟨q, hq⟩ : ∃ q, x * 32 / 8 = q := ⟨_, rfl⟩
      have hqI : (x : Int) * 32 / 8 = (q : Int) := by omega
      have hqB : q ≤ 65536 := by omega
      obtain ⟨a, ha⟩ : ∃ a, yl + q = a := ⟨_, rfl⟩
      have haI : (yl : Int) + (q : Int) = (a : Int) := by omega
      obtain ⟨a2, ha2⟩ : ∃ q, a + 4 = q := ⟨_, rfl⟩
      have ha2I : (a : Int) + 4 = (a2 : Int) := by omega
      have hpl : sunPlace ⟨W, H, 32, t, n⟩ k = a := by
        show k / W * sunLine ⟨W, H, 32, t, n⟩ + k % W * 32 / 8 = a
        rw [HFACT.out.2.2.2.1, hx, hy, hyl, hq, ha]
      have hsz : sunSize ⟨W, H, 32, t, n⟩ = 4 := by simp [sunSize]
      have hrun := HRUN.out
      rw [sunPix2, hpl, hsz, ha2, HZS.out.2] at hrun
      rw [show k % (⟨W, H, 32, t, n⟩ : SunHd).W = x from hx] at hrun
      have HFA := Lib.hid (And.intro hpl hsz)
      have hkB : (k : Int) ≤ 268435456 := by omega
      have haB : (a : Int) ≤ 1073807360 := by omega
      clear HRUN hx hy hyl hq hpl hsz
      go_upto_region 14 with fail
      rw [hxI]
      go_cut [84] from 54 to 143 (fun c wx => ∃ j, c = .bool (decide (x = 0 ∧ 0 < k ∧ zl < yl)) ∧ wx = wr.drewN j)
      case first =>
        by_cases hx0 : x = 0
        · have hx0I : (x : Int) = 0 := by omega
          have hx0B : ((x : Int) == 0) = true := by rw [beq_iff_eq]; exact hx0I
          by_cases hk0 : k = 0
          · have hk0B : decide ((0 : Int) < (k : Int)) = false := decide_eq_false (by omega)
            have hk0C : decide (0 < k) = false := decide_eq_false (by omega)
            have hdec := Lib.hid (decide_eq_false (p := x = 0 ∧ 0 < k ∧ zl < yl) (by omega))
            clear hk0 hx0 hx0I
            go_quiet (fail)
            go_wp2_with fail
            go_meet
            case rel => exact ⟨_, congrArg Value.bool hdec.out.symm, rfl⟩
          · have hk0I : (0 : Int) < (k : Int) := by omega
            have hk0N : 0 < k := by omega
            by_cases hzy : zl < yl
            · have hzyI : (zl : Int) < (yl : Int) := by omega
              have hdec := Lib.hid (decide_eq_true (p := x = 0 ∧ 0 < k ∧ zl < yl) (by omega))
              clear hx0 hx0I
              go_quiet (fail)
              go_wp2_with fail
              go_meet
              case rel => exact ⟨_, congrArg Value.bool hdec.out.symm, rfl⟩
            · have hzyI : ¬ (zl : Int) < (yl : Int) := by omega
              have hdec := Lib.hid (decide_eq_false (p := x = 0 ∧ 0 < k ∧ zl < yl) (by omega))
              clear hx0 hx0I
              go_quiet (fail)
              go_wp2_with fail
              go_meet
              case rel => exact ⟨_, congrArg Value.bool hdec.out.symm, rfl⟩
        · have hx0B : ((x : Int) == 0) = false := by rw [beq_eq_false_iff_ne]; omega
          have hdec := Lib.hid (decide_eq_false (p := x = 0 ∧ 0 < k ∧ zl < yl) (by omega))
          go_quiet (fail)
          go_wp2_with fail
          go_meet
          case rel => exact ⟨_, congrArg Value.bool hdec.out.symm, rfl⟩
      case rest =>
        obtain ⟨j, rfl, rfl⟩ := hcut
        by_cases hE : x = 0 ∧ 0 < k ∧ zl < yl
        · rw [if_pos (by omega)] at hrun
          rw [decide_eq_true hE]
          have HRUN := Lib.hid hrun
          clear hrun hE
          go_wp2_with (go_at_call 67; refine (refBadC 1 _ _).mono ?_; rintro e wb ⟨rfl, bb⟩; have IB := (HI.out.drewN _).below bb; obtain ⟨x0, x1, x2, x3, x4, zx0, zx1, zx2, zx3, zx4, xl⟩ := RI.all IB.A)
          exact bodyPost_ret (v := .agg #[.int .i64 0, .int .i64 0, .slice none 0 0, .int .i64 1, .int .i64 (s.size : Int)]) (by simp [results, Tryz.results24, go_sem, x0, x1, x2, x3, x4]) rfl (by rw [show D = DRes.bad 1 s.size from HRUN.out.symm]; exact ⟨Below.st5 IB.B (Nat.le_refl _), rfl⟩)
        · rw [decide_eq_false hE]
          clear hE
          by_cases hz2 : zl < a2
          · have hz2I : (zl : Int) < (a2 : Int) := by omega
            rw [if_pos hz2] at hrun
            have HRUN := Lib.hid hrun
            clear hrun
            go_wp2_with fail
            go_quiet (fail)
            go_wp2_with (go_at_call 67; refine (refBadC 1 _ _).mono ?_; rintro e wb ⟨rfl, bb⟩; have IB := (HI.out.drewN _).below bb; obtain ⟨x0, x1, x2, x3, x4, zx0, zx1, zx2, zx3, zx4, xl⟩ := RI.all IB.A)
            exact bodyPost_ret (v := .agg #[.int .i64 0, .int .i64 0, .slice none 0 0, .int .i64 1, .int .i64 (s.size : Int)]) (by simp [results, Tryz.results24, go_sem, x0, x1, x2, x3, x4]) rfl (by rw [show D = DRes.bad 1 s.size from HRUN.out.symm]; exact ⟨Below.st5 IB.B (Nat.le_refl _), rfl⟩)
          · have hz2I : ¬ (zl : Int) < (a2 : Int) := by omega
            rw [if_neg hz2] at hrun
            have hbs : (zs.extract a a2).size = sunSize ⟨W, H, 32, t, n⟩ := by rw [ByteArray.size_extract, HFA.out.2]; omega
            have HPX0 := fun w => refSunPixel (s := s) (b := zs.extract a a2) (W := W) (H := H) (d := 32) (t := t) (n := n) (x := x) (.inr (.inr (.inr rfl))) hbs hsm hn hs w
            have hcol : sunColB s ⟨W, H, 32, t, n⟩ (zs.extract a a2) x = sunColAt s ⟨W, H, 32, t, n⟩ Z a x := by
              have := sunColB_at (s := s) (h := ⟨W, H, 32, t, n⟩) (Z := Z) (a := a) (x := x) (.inr (.inr (.inr rfl))) HFACT.out.2.2.2.2.2 (by rw [HFA.out.2, HZS.out.2]; omega)
              rw [HFA.out.2, ha2, HZS.out.1] at this
              exact this
            rw [hcol] at HPX0
            generalize sunColAt s ⟨W, H, 32, t, n⟩ Z a x = oc at HPX0 hrun
            have haz : (a : Int) < (zl : Int) := by omega
            have haN : a < zl := by omega
            have hcut1 : (a : Int) ≤ (a2 : Int) := by omega
            have hcut2 : (a2 : Int) ≤ (zl : Int) := by omega
            unfold hdV hd7 at HPX0
            obtain ⟨qc, hqc⟩ : ∃ q, oc.getD ⟨0, 0, 0, 0⟩ = q := ⟨_, rfl⟩
            obtain ⟨qb, hqb⟩ : ∃ q, oc.isSome = q := ⟨_, rfl⟩
            rw [hqc, hqb] at HPX0
            unfold Qc.v at HPX0
            have HPX := Lib.hid HPX0
            have HQQ := Lib.hid (And.intro hqc hqb)
            have HRUN := Lib.hid hrun
            clear hrun HPX0 hqc hqb hbs hcol ha2
            go_wp2_with fail
            go_quiet (fail)
            go_upto_region 22 with fail
            go_cut [12, 13] from 54 to 143 (fun c12 c13 wx => ∃ cb, c12 = .pointer (some ⟨cb, 0, none⟩) ∧ c13 = .bool qb ∧ Hid (SdI w wx ph pb po W H 32 t n zs (.slice va zl vc) (zpl Z) sh v L ∧ Blk wx cb 131 #[.int .u8 (qc.r.toNat : Int), .int .u8 (qc.g.toNat : Int), .int .u8 (qc.b.toNat : Int), .int .u8 (qc.a.toNat : Int)]))
            case first =>
              clear hylI hWH hqI haI
              have hwa : IntKind.i64.wrap (a2 : Int) = (a2 : Int) := IntWalk.i64_in _ (by omega)
              have ha2z : a2 ≤ zl := by omega
              have haa2 : a ≤ a2 := by omega
              refine wp_gen (S := fun wx => SdI w wx ph pb po W H 32 t n zs (.slice va zl vc) (zpl Z) sh v L) (by exact (HI.out.drewN _)) (fun wx hX => ?_)
              have HX := Lib.hid hX
              clear hX
              refine wp_region_held_drew (S := (SdS ph pb W H 32 t n zs)) (by kernel_rfl) HX.out.drew.sds (fun hHeld => ?_)
              refine wpAnyH_take (i := 0) (v := ?_) rfl (by kernel_rfl) (by kernel_rfl) (by kernel_rfl) (fun _ _ _ h => h) (Or.inl ⟨by kernel_rfl, ?_⟩) (by assumption) ?_
              rotate_left
              · intro w hSw; obtain ⟨s0, s1, s2, s3, s4, s5, s6, s7⟩ := hSw; go_simp; (try with_reducible rfl)
              (try simp only [Act.put, List.setIfInBounds_toArray, List.set_cons_zero, List.set_cons_succ])
              refine wpAnyH_take (i := 1) (v := ?_) rfl (by kernel_rfl) (by kernel_rfl) (by kernel_rfl) (fun _ _ _ h => h) (Or.inl ⟨by kernel_rfl, ?_⟩) (by assumption) ?_
              rotate_left
              · intro w hSw; obtain ⟨s0, s1, s2, s3, s4, s5, s6, s7⟩ := hSw; go_simp; (try with_reducible rfl)
              (try simp only [Act.put, List.setIfInBounds_toArray, List.set_cons_zero, List.set_cons_succ])
              refine wpAnyH_take (i := 2) (v := ?_) rfl (by kernel_rfl) (by kernel_rfl) (by kernel_rfl) (fun _ _ _ h => h) (Or.inl ⟨by kernel_rfl, ?_⟩) (by assumption) ?_
              rotate_left
              · intro w hSw; obtain ⟨s0, s1, s2, s3, s4, s5, s6, s7⟩ := hSw; go_simp; (try with_reducible rfl)
              (try simp only [Act.put, List.setIfInBounds_toArray, List.set_cons_zero, List.set_cons_succ])
              refine wpAnyH_take (i := 3) (v := ?_) rfl (by kernel_rfl) (by kernel_rfl) (by kernel_rfl) (fun _ _ _ h => h) (Or.inl ⟨by kernel_rfl, ?_⟩) (by assumption) ?_
              rotate_left
              · intro w hSw; obtain ⟨s0, s1, s2, s3, s4, s5, s6, s7⟩ := hSw; go_simp; (try with_reducible rfl)
              (try simp only [Act.put, List.setIfInBounds_toArray, List.set_cons_zero, List.set_cons_succ])
              refine wpAnyH_take (i := 4) (v := ?_) rfl (by kernel_rfl) (by kernel_rfl) (by kernel_rfl) (fun _ _ _ h => h) (Or.inl ⟨by kernel_rfl, ?_⟩) (by assumption) ?_
              rotate_left
              · intro w hSw; obtain ⟨s0, s1, s2, s3, s4, s5, s6, s7⟩ := hSw; go_simp; (try with_reducible rfl)
              (try simp only [Act.put, List.setIfInBounds_toArray, List.set_cons_zero, List.set_cons_succ])
              refine wpAnyH_take (i := 5) (v := ?_) rfl (by kernel_rfl) (by kernel_rfl) (by kernel_rfl) (fun _ _ _ h => h) (Or.inl ⟨by kernel_rfl, ?_⟩) (by assumption) ?_
              rotate_left
              · intro w hSw; obtain ⟨s0, s1, s2, s3, s4, s5, s6, s7⟩ := hSw; go_simp; (try with_reducible rfl)
              (try simp only [Act.put, List.setIfInBounds_toArray, List.set_cons_zero, List.set_cons_succ])
              refine wpAnyH_take (i := 6) (v := ?_) rfl (by kernel_rfl) (by kernel_rfl) (by kernel_rfl) (fun _ _ _ h => h) (Or.inl ⟨by kernel_rfl, ?_⟩) (by assumption) ?_
              rotate_left
              · intro w hSw; obtain ⟨s0, s1, s2, s3, s4, s5, s6, s7⟩ := hSw; go_simp; (try with_reducible rfl)
              (try simp only [Act.put, List.setIfInBounds_toArray, List.set_cons_zero, List.set_cons_succ])
              refine wpAnyH_take (i := 7) (v := ?_) rfl (by kernel_rfl) (by kernel_rfl) (by kernel_rfl) (fun _ _ _ h => h) (Or.inl ⟨by kernel_rfl, ?_⟩) (by assumption) ?_
              rotate_left
              · intro w hSw; obtain ⟨s0, s1, s2, s3, s4, s5, s6, s7⟩ := hSw; go_simp; (try with_reducible rfl)
              (try simp only [Act.put, List.setIfInBounds_toArray, List.set_cons_zero, List.set_cons_succ])
              refine wpAnyH_take (i := 8) (v := ?_) rfl (by kernel_rfl) (by kernel_rfl) (by kernel_rfl) (fun _ _ _ h => h) (Or.inl ⟨by kernel_rfl, ?_⟩) (by assumption) ?_
              rotate_left
              · intro w hSw; obtain ⟨s0, s1, s2, s3, s4, s5, s6, s7⟩ := hSw; go_simp; (try with_reducible rfl)
              (try simp only [Act.put, List.setIfInBounds_toArray, List.set_cons_zero, List.set_cons_succ])
              refine wpAnyH_take (i := 9) (v := ?_) rfl (by kernel_rfl) (by kernel_rfl) (by kernel_rfl) (fun _ _ _ h => h) (Or.inl ⟨by kernel_rfl, ?_⟩) (by assumption) ?_
              rotate_left
              · intro w hSw; obtain ⟨s0, s1, s2, s3, s4, s5, s6, s7⟩ := hSw; go_simp; (try with_reducible rfl)
              (try simp only [Act.put, List.setIfInBounds_toArray, List.set_cons_zero, List.set_cons_succ])
              refine wpAnyH_ready (rs := [10, 14]) (by kernel_rfl) (by simp) ?_
              refine AllReadyH.cons rfl (fun K hK => ?_) (AllReadyH.cons rfl (fun K hK => ?_) AllReadyH.nil)
              · go_simp
                refine (HPX.out _).mono ?_
                rintro e w8 ⟨rfl, b8⟩
                have I8 := HX.out.drew.below b8
                refine hK.out _ _ I8.sds (fun hHeld' => ?_)
                clear hK K hHeld
                have hHeld := hHeld'
                clear hHeld'
                (try simp only [Act.put, List.setIfInBounds_toArray, List.set_cons_zero, List.set_cons_succ])
                refine wpAnyH_take (i := 11) (v := ?_) rfl (by kernel_rfl) (by kernel_rfl) (by kernel_rfl) (fun _ _ _ h => h) (Or.inl ⟨by kernel_rfl, ?_⟩) (by assumption) ?_
                rotate_left
                · intro w hSw; obtain ⟨s0, s1, s2, s3, s4, s5, s6, s7⟩ := hSw; go_simp; (try with_reducible rfl)
                (try simp only [Act.put, List.setIfInBounds_toArray, List.set_cons_zero, List.set_cons_succ])
                refine wpAnyH_take (i := 12) (v := ?_) rfl (by kernel_rfl) (by kernel_rfl) (by kernel_rfl) (fun _ _ _ h => h) (Or.inl ⟨by kernel_rfl, ?_⟩) (by assumption) ?_
                rotate_left
                · intro w hSw; obtain ⟨s0, s1, s2, s3, s4, s5, s6, s7⟩ := hSw; go_simp; (try with_reducible rfl)
                (try simp only [Act.put, List.setIfInBounds_toArray, List.set_cons_zero, List.set_cons_succ])
                refine wpAnyH_take (i := 13) (v := ?_) rfl (by kernel_rfl) (by kernel_rfl) (by kernel_rfl) (fun _ _ _ h => h) (Or.inl ⟨by kernel_rfl, ?_⟩) (by assumption) ?_
                rotate_left
                · intro w hSw; obtain ⟨s0, s1, s2, s3, s4, s5, s6, s7⟩ := hSw; go_simp; (try with_reducible rfl)
                (try simp only [Act.put, List.setIfInBounds_toArray, List.set_cons_zero, List.set_cons_succ])
                refine wpAnyH_ready (rs := [14]) (by kernel_rfl) (by simp) ?_
                refine AllReadyH.cons rfl (fun K hK => ?_) AllReadyH.nil
                go_simp
                have n9 := b8.size
                have b9 := b8.alloc b8.size (.cells #[.int .u8 0, .int .u8 0, .int .u8 0, .int .u8 0] 131)
                have I9 := I8.alloc (.cells #[.int .u8 0, .int .u8 0, .int .u8 0, .int .u8 0] 131)
                have C9 : Blk (w8.alloc (.cells #[.int .u8 0, .int .u8 0, .int .u8 0, .int .u8 0] 131)) w8.heap.size 131 #[.int .u8 0, .int .u8 0, .int .u8 0, .int .u8 0] := Blk.new _ _ _
                generalize w8.alloc (.cells #[.int .u8 0, .int .u8 0, .int .u8 0, .int .u8 0] 131) = w9 at b9 I9 C9 ⊢
                generalize w8.heap.size = cb at n9 C9 ⊢
                obtain ⟨l0, l1, l2, l3, z0, z1, z2, z3, ll⟩ := col4_all C9
                refine hK.out _ _ I9.sds (fun hHeld' => ?_)
                clear hK K hHeld
                have hHeld := hHeld'
                clear hHeld'
                (try simp only [Act.put, List.setIfInBounds_toArray, List.set_cons_zero, List.set_cons_succ])
                refine wpAnyH_ready (rs := [15]) (by kernel_rfl) (by simp) ?_
                refine AllReadyH.cons rfl (fun K hK => ?_) AllReadyH.nil
                go_simp
                have IF := SdI.lay4 (cb := cb) (u0 := .int .u8 (qc.r.toNat : Int)) (u1 := .int .u8 (qc.g.toNat : Int)) (u2 := .int .u8 (qc.b.toNat : Int)) (u3 := .int .u8 (qc.a.toNat : Int)) HX.out.drew b9 n9
                have CF := col4 (u0 := .int .u8 (qc.r.toNat : Int)) (u1 := .int .u8 (qc.g.toNat : Int)) (u2 := .int .u8 (qc.b.toNat : Int)) (u3 := .int .u8 (qc.a.toNat : Int)) C9
                refine hK.out _ _ IF.sds (fun hHeld' => ?_)
                clear hK K hHeld
                have hHeld := hHeld'
                clear hHeld'
                (try simp only [Act.put, List.setIfInBounds_toArray, List.set_cons_zero, List.set_cons_succ])
                refine wpAnyH_take (i := 16) (v := ?_) rfl (by kernel_rfl) (by kernel_rfl) (by kernel_rfl) (fun _ _ _ h => h) (Or.inl ⟨by kernel_rfl, ?_⟩) (by assumption) ?_
                rotate_left
                · intro w hSw; obtain ⟨s0, s1, s2, s3, s4, s5, s6, s7⟩ := hSw; go_simp; (try with_reducible rfl)
                (try simp only [Act.put, List.setIfInBounds_toArray, List.set_cons_zero, List.set_cons_succ])
                refine wpAnyH_done (by kernel_rfl) ?_ _
                (try simp only [List.getElem_toArray, List.getElem_cons_succ, List.getElem_cons_zero, List.set_cons_zero, List.set_cons_succ])
                go_wp2_with fail
                go_meet
                case rel => exact ⟨cb, rfl, rfl, Lib.hid ⟨IF, CF⟩⟩
              · go_simp
                have b7 : Below wx.heap.size wx (wx.alloc (.cells #[.int .u8 0, .int .u8 0, .int .u8 0, .int .u8 0] 131)).drew := ((Below.refl wx.heap.size wx).alloc (Nat.le_refl _) _).drew
                have C7 : Blk (wx.alloc (.cells #[.int .u8 0, .int .u8 0, .int .u8 0, .int .u8 0] 131)).drew wx.heap.size 131 #[.int .u8 0, .int .u8 0, .int .u8 0, .int .u8 0] := Blk.drew (Blk.new wx _ _)
                generalize (wx.alloc (.cells #[.int .u8 0, .int .u8 0, .int .u8 0, .int .u8 0] 131)).drew = w7 at b7 C7 ⊢
                generalize hcb : wx.heap.size = cb at C7 ⊢
                have n9 := Nat.le_of_eq hcb
                have I7 := HX.out.below b7
                refine hK.out _ _ I7.sds (fun hHeld' => ?_)
                clear hK K hHeld
                have hHeld := hHeld'
                clear hHeld'
                (try simp only [Act.put, List.setIfInBounds_toArray, List.set_cons_zero, List.set_cons_succ])
                refine wpAnyH_ready (rs := [10]) (by kernel_rfl) (by simp) ?_
                refine AllReadyH.cons rfl (fun K hK => ?_) AllReadyH.nil
                go_simp
                refine (HPX.out _).mono ?_
                rintro e w8 ⟨rfl, b8⟩
                have I8 := I7.below b8
                have C9 := Blk.below C7 b8 (Blk.lt C7)
                have b9 : Below wx.heap.size wx w8 := b7.trans (b8.mono b7.size)
                obtain ⟨l0, l1, l2, l3, z0, z1, z2, z3, ll⟩ := col4_all C9
                refine hK.out _ _ I8.sds (fun hHeld' => ?_)
                clear hK K hHeld
                have hHeld := hHeld'
                clear hHeld'
                (try simp only [Act.put, List.setIfInBounds_toArray, List.set_cons_zero, List.set_cons_succ])
                refine wpAnyH_take (i := 11) (v := ?_) rfl (by kernel_rfl) (by kernel_rfl) (by kernel_rfl) (fun _ _ _ h => h) (Or.inl ⟨by kernel_rfl, ?_⟩) (by assumption) ?_
                rotate_left
                · intro w hSw; obtain ⟨s0, s1, s2, s3, s4, s5, s6, s7⟩ := hSw; go_simp; (try with_reducible rfl)
                (try simp only [Act.put, List.setIfInBounds_toArray, List.set_cons_zero, List.set_cons_succ])
                refine wpAnyH_take (i := 12) (v := ?_) rfl (by kernel_rfl) (by kernel_rfl) (by kernel_rfl) (fun _ _ _ h => h) (Or.inl ⟨by kernel_rfl, ?_⟩) (by assumption) ?_
                rotate_left
                · intro w hSw; obtain ⟨s0, s1, s2, s3, s4, s5, s6, s7⟩ := hSw; go_simp; (try with_reducible rfl)
                (try simp only [Act.put, List.setIfInBounds_toArray, List.set_cons_zero, List.set_cons_succ])
                refine wpAnyH_take (i := 13) (v := ?_) rfl (by kernel_rfl) (by kernel_rfl) (by kernel_rfl) (fun _ _ _ h => h) (Or.inl ⟨by kernel_rfl, ?_⟩) (by assumption) ?_
                rotate_left
                · intro w hSw; obtain ⟨s0, s1, s2, s3, s4, s5, s6, s7⟩ := hSw; go_simp; (try with_reducible rfl)
                (try simp only [Act.put, List.setIfInBounds_toArray, List.set_cons_zero, List.set_cons_succ])
                refine wpAnyH_ready (rs := [15]) (by kernel_rfl) (by simp) ?_
                refine AllReadyH.cons rfl (fun K hK => ?_) AllReadyH.nil
                go_simp
                have IF := SdI.lay4 (cb := cb) (u0 := .int .u8 (qc.r.toNat : Int)) (u1 := .int .u8 (qc.g.toNat : Int)) (u2 := .int .u8 (qc.b.toNat : Int)) (u3 := .int .u8 (qc.a.toNat : Int)) HX.out b9 n9
                have CF := col4 (u0 := .int .u8 (qc.r.toNat : Int)) (u1 := .int .u8 (qc.g.toNat : Int)) (u2 := .int .u8 (qc.b.toNat : Int)) (u3 := .int .u8 (qc.a.toNat : Int)) C9
                refine hK.out _ _ IF.sds (fun hHeld' => ?_)
                clear hK K hHeld
                have hHeld := hHeld'
                clear hHeld'
                (try simp only [Act.put, List.setIfInBounds_toArray, List.set_cons_zero, List.set_cons_succ])
                refine wpAnyH_take (i := 16) (v := ?_) rfl (by kernel_rfl) (by kernel_rfl) (by kernel_rfl) (fun _ _ _ h => h) (Or.inl ⟨by kernel_rfl, ?_⟩) (by assumption) ?_
                rotate_left
                · intro w hSw; obtain ⟨s0, s1, s2, s3, s4, s5, s6, s7⟩ := hSw; go_simp; (try with_reducible rfl)
                (try simp only [Act.put, List.setIfInBounds_toArray, List.set_cons_zero, List.set_cons_succ])
                refine wpAnyH_done (by kernel_rfl) ?_ _
                (try simp only [List.getElem_toArray, List.getElem_cons_succ, List.getElem_cons_zero, List.set_cons_zero, List.set_cons_succ])
                go_wp2_with fail
                go_meet
                case rel => exact ⟨cb, rfl, rfl, Lib.hid ⟨IF, CF⟩⟩
            case rest =>
              obtain ⟨cb, rfl, rfl, HJ⟩ := hcut
              clear hylI hWH hqI haI h0 h1 h2 h3 h4 y0 y1 y2 HPX
              obtain ⟨hqc, hqb⟩ := HQQ.out
              cases oc with
              | none =>
                obtain rfl : qb = false := hqb.symm
                obtain ⟨gp, hva⟩ : ∃ g, va = some ⟨g, 0, none⟩ := by
                  rcases HJ.out.1.P.form with ⟨e, _⟩ | ⟨g, cap, e, _⟩
                  · injection e with e1 e2 e3; omega
                  · injection e with e1 e2 e3; exact ⟨g, e1⟩
                subst hva
                have hplace : wc.cell? ⟨gp, a, none⟩ = some (.int .i64 (zp Z a : Int)) := by
                  rcases HJ.out.1.P.form with ⟨e, _⟩ | ⟨g, cap, e, _, _, _, _, hc⟩
                  · cases e
                  · injection e with e1 e2 e3
                    injection e1 with e1
                    injection e1 with e1
                    subst e1
                    have hl : a < Z.length := by rw [HZS.out.2]; exact haN
                    rw [hc a (by rw [zpl_len]; exact hl)]
                    unfold zpl zp
                    rw [List.getElem?_map, List.getElem?_eq_getElem hl, List.getD_eq_getElem?_getD, List.getElem?_eq_getElem hl]
                    rfl
                obtain ⟨pz, hpz⟩ : ∃ p, zp Z a = p := ⟨_, rfl⟩
                have hrun := HRUN.out
                simp only at hrun
                rw [hpz] at hplace hrun
                have HR2 := Lib.hid hrun
                have y1 : wc.cell? ⟨pb, 1, none⟩ = some (.slice (some ⟨gp, 0, none⟩) zl vc) := HJ.out.1.heads.2.2.2.2.2.2.2.2.1
                clear hrun hpz HRUN HQQ
                go_wp2_with (go_at_call 67; refine (refBadC 2 _ _).mono ?_; rintro e wb ⟨rfl, bb⟩; have IB := HJ.out.1.below bb; obtain ⟨x0, x1, x2, x3, x4, zx0, zx1, zx2, zx3, zx4, xl⟩ := RI.all IB.A)
                exact bodyPost_ret (v := .agg #[.int .i64 0, .int .i64 0, .slice none 0 0, .int .i64 2, .int .i64 (pz : Int)]) (by simp [results, Tryz.results24, go_sem, x0, x1, x2, x3, x4]) rfl (by rw [show D = DRes.bad 2 pz from HR2.out.symm]; exact ⟨Below.st5 IB.B (Nat.le_refl _), rfl⟩)
              | some c =>
                obtain rfl : qb = true := hqb.symm
                obtain rfl : c = qc := hqc
                have hrun := HRUN.out
                simp only at hrun
                have HR2 := Lib.hid hrun
                obtain ⟨l0, l1, l2, l3, z0, z1, z2, z3, ll⟩ := col4_all HJ.out.2
                obtain ⟨X0, X1, X2, X3, X4, zX0, zX1, zX2, zX3, zX4, Xl⟩ := RI.all HJ.out.1.X
                have hll : L.length + ([c] : List Qc).length < 1099511627776 := by rw [HL.out]; simp; omega
                have hbz : w.heap.size ≤ (wc.alloc (.cells #[.int .u8 (c.r.toNat : Int), .int .u8 (c.g.toNat : Int), .int .u8 (c.b.toNat : Int), .int .u8 (c.a.toNat : Int)] 131)).heap.size := by have := HJ.out.1.B.size; simp; omega
                clear hrun HRUN HQQ
                go_wp2_with (at_builtin; refine wpList_append_cols rfl (.tmp 139) (.tmp 141) rfl w.heap.size v L rfl (HJ.out.1.O.alloc _) wc.heap.size 1 1 [c] rfl rfl (q_new wc c) hll hbz ?_; intro v6 w6 o6 b6 g6; have IG := SdI.grow (HJ.out.1.alloc _) o6 b6 g6; have X6 : RI w6 po (W : Int) (H : Int) v 0 0 := Blk.grownQ (Blk.alloc HJ.out.1.X _) (HJ.out.1.O.alloc _) (by decide) g6; obtain ⟨a6, c6, hv6⟩ := o6.slice; generalize hn6 : (L ++ [c]).length = n6 at hv6; subst hv6; clear X0 X1 X2 X3 X4 zX0 zX1 zX2 zX3 zX4 Xl l0 l1 l2 l3 z0 z1 z2 z3 ll; obtain ⟨X0, X1, X2, X3, X4, zX0, zX1, zX2, zX3, zX4, Xl⟩ := RI.all X6)
                have HG := Lib.hid IG
                have HN6 := Lib.hid hn6
                clear IG X6 o6 b6 g6 X0 X1 X2 X3 X4 zX0 zX1 zX2 zX3 zX4 Xl hn6 hll hbz
                go_roundg m
                case measure => omega
                case rel => exact ⟨k + 1, _, L ++ [c], by omega, by go_num, by rw [List.length_append, HL.out]; rfl, HR2, HG⟩
    · obtain rfl : k = N := by omega
      obtain rfl : gk = 0 := by omega
      have hkI : ¬ (k : Int) < (k : Int) := by omega
      have hrun := HRUN.out
      rw [sunPix2] at hrun
      have hM : sunLine ⟨W, H, 32, t, n⟩ * (⟨W, H, 32, t, n⟩ : SunHd).H = M := by rw [HFACT.out.2.2.2.1]; exact HFACT.out.2.1
      rw [hM] at hrun
      have hsh := HFACT.out.2.2.2.2.1
      by_cases hz : Z.length < M
      · rw [if_pos hz] at hrun
        rw [decide_eq_true hz] at hsh
        subst hsh
        have HR2 := Lib.hid hrun
        clear hrun HRUN hM hz
        go_wp2_with (go_at_call 67; refine (refBadC 1 _ _).mono ?_; rintro e wb ⟨rfl, bb⟩; have IB := HI.out.below bb; obtain ⟨x0, x1, x2, x3, x4, zx0, zx1, zx2, zx3, zx4, xl⟩ := RI.all IB.A)
        exact bodyPost_ret (v := .agg #[.int .i64 0, .int .i64 0, .slice none 0 0, .int .i64 1, .int .i64 (s.size : Int)]) (by simp [results, Tryz.results24, go_sem, x0, x1, x2, x3, x4]) rfl (by rw [show D = DRes.bad 1 s.size from HR2.out.symm]; exact ⟨Below.st5 IB.B (Nat.le_refl _), rfl⟩)
      · rw [if_neg hz] at hrun
        rw [decide_eq_false hz] at hsh
        subst hsh
        have HR2 := Lib.hid hrun
        obtain ⟨va', vc', hv⟩ := HI.out.O.slice
        generalize L.length = ll at hv
        subst hv
        obtain ⟨x0, x1, x2, x3, x4, zx0, zx1, zx2, zx3, zx4, xl⟩ := RI.all HI.out.A
        obtain ⟨X0, X1, X2, X3, X4, zX0, zX1, zX2, zX3, zX4, Xl⟩ := RI.all HI.out.X
        have HNN := HFACT.out.2.2.1
        clear hrun HRUN hM hz
        go_wp2_with fail
        exact bodyPost_ret (v := .agg #[.int .i64 (W : Int), .int .i64 (H : Int), .slice va' ll vc', .int .i64 0, .int .i64 0]) (by simp [results, Tryz.results24, go_sem, x0, x1, x2, x3, x4]) rfl (by rw [show D = DRes.img W H (flat L) from HR2.out.symm]; exact ⟨HI.out.outs.1, _, L, rfl, HI.out.outs.2, rfl, by rw [HL.out, HNN]⟩)
end Go.Proofs.YtccldalagbfmhaaGreat
