/- The name and the map of a file of TGA's, by any budget. -/
import Derived.Test.YtlehkgkomjojmaaGreatSq
import Derived.Test.YtlehkgkomjojmaaGreatGRasWays
namespace Go.Proofs.YtlehkgkomjojmaaGreat
open Go.RowKit
set_option linter.unusedVariables false
set_option linter.unusedSimpArgs false

theorem skip_yes {w : World} {p g f t a : Nat} {s : ByteArray} {x y : Led} (n : Nat) (h : SrcAt w p g s f t a) (o : SrcOk s f t a) (k : LedAt w g x) (ok : x.Ok) (e : x.work 1 = (y, true)) (hn : a + n ≤ t) :
    Calls Tryz.prog 172 #[.pointer (some ⟨p, 0, none⟩), .int .i64 (n : Int)] w fun e w' => e = .returned (.bool true) ∧ SrcAt w' p g s f t (a + n) ∧ LedAt w' g y ∧ Turn [p, g] w w' := by
  have HN := Lib.hid (srcNext_yes n h o k ok e hn)
  clear h k ok e
  go_enter Tryz.func172, Tryz.ntmps172
  go_wp2_with (go_at_call 133; refine HN.out.mono ?_; rintro e w1 ⟨rfl, q1, q2, q3⟩)
  go_ret
  exact ⟨rfl, q1, q2, q3⟩
theorem skip_short {w : World} {p g f t a : Nat} {s : ByteArray} {x y : Led} (n : Int) (h : SrcAt w p g s f t a) (o : SrcOk s f t a) (k : LedAt w g x) (ok : x.Ok) (e : x.work 1 = (y, true)) (hn : n < 0 ∨ (t : Int) - a < n) :
    Calls Tryz.prog 172 #[.pointer (some ⟨p, 0, none⟩), .int .i64 n] w fun e w' => e = .returned (.bool false) ∧ SrcAt w' p g s f t a ∧ LedAt w' g y ∧ Turn [p, g] w w' := by
  have HN := Lib.hid (srcNext_short n h o k ok e hn)
  clear h k ok e
  go_enter Tryz.func172, Tryz.ntmps172
  go_wp2_with (go_at_call 133; refine HN.out.mono ?_; rintro e w1 ⟨rfl, q1, q2, q3⟩)
  go_ret
  exact ⟨rfl, q1, q2, q3⟩
theorem skip_spent {w : World} {p g f t a : Nat} {s : ByteArray} {x y : Led} (n : Int) (h : SrcAt w p g s f t a) (k : LedAt w g x) (ok : x.Ok) (e : x.work 1 = (y, false)) :
    Calls Tryz.prog 172 #[.pointer (some ⟨p, 0, none⟩), .int .i64 n] w fun e w' => e = .returned (.bool false) ∧ SrcAt w' p g s f t a ∧ LedAt w' g y ∧ Turn [p, g] w w' := by
  have HN := Lib.hid (srcNext_spent n h k ok e)
  clear h k ok e
  go_enter Tryz.func172, Tryz.ntmps172
  go_wp2_with (go_at_call 133; refine HN.out.mono ?_; rintro e w1 ⟨rfl, q1, q2, q3⟩)
  go_ret
  exact ⟨rfl, q1, q2, q3⟩
/-- the ways of going over n bytes -/
def SkipPost (w w' : World) (p g : Nat) (s : ByteArray) (f t a n : Nat) (x : Led) (e : Ending) : Prop :=
  ∃ y, LedAt w' g y ∧ y.Ok ∧ y.bytes = x.bytes ∧ Turn [p, g] w w' ∧
    ((∃ kk aa, e = .returned (.bool false) ∧ SrcAt w' p g s f t a ∧ NoRead y a t kk aa ∧ NoRun x y a t (a + n ≤ t) kk aa) ∨
     (e = .returned (.bool true) ∧ SrcAt w' p g s f t (a + n) ∧ y.reason = 0 ∧ a + n ≤ t ∧ x.work 1 = (y, true)))
theorem srcSkip_ways {w : World} {p g : Nat} {s : ByteArray} {f t a : Nat} {x : Led} (n : Nat) (h : SrcAt w p g s f t a) (o : SrcOk s f t a) (k : LedAt w g x) (ok : x.Ok) (hx : x.reason = 0) :
    Calls Tryz.prog 172 #[.pointer (some ⟨p, 0, none⟩), .int .i64 (n : Int)] w fun e w' => SkipPost w w' p g s f t a n x e := by
  rcases led_work_ways 1 ok hx with ⟨y, e, yok, yr, yb⟩ | ⟨y, e, yok, yr, yb⟩
  · refine (skip_spent (n : Int) h k ok e).mono ?_
    rintro e' w' ⟨rfl, q1, q2, q3⟩
    exact ⟨y, q2, yok, yb, q3, .inl ⟨4, a, rfl, q1, .inl ⟨yr, rfl, rfl⟩, noRun_spent e⟩⟩
  · by_cases ha : a + n ≤ t
    · refine (skip_yes n h o k ok e ha).mono ?_
      rintro e' w' ⟨rfl, q1, q2, q3⟩
      exact ⟨y, q2, yok, yb, q3, .inr ⟨rfl, q1, yr, ha, e⟩⟩
    · refine (skip_short (n : Int) h o k ok e (.inr (by have := o.at_; omega))).mono ?_
      rintro e' w' ⟨rfl, q1, q2, q3⟩
      exact ⟨y, q2, yok, yb, q3, .inl ⟨1, t, rfl, q1, .inr ⟨yr, rfl, rfl⟩, noRun_short e ha⟩⟩
def tFlt (k a : Nat) : Value := .agg #[.int .i64 (k : Int), .int .i64 2, .int .i64 (a : Int)]
def tFlt0 : Value := .agg #[.int .i64 0, .int .i64 0, .int .i64 0]
def tHdCs (h : TgaHd) : Array Value := #[.int .i64 (h.name : Int), .bool h.map, .int .i64 (h.typ : Int), .int .i64 (h.first : Int), .int .i64 (h.count : Int), .int .i64 (h.entry : Int), .int .i64 (h.W : Int), .int .i64 (h.H : Int), .int .i64 (h.depth : Int), .int .i64 (h.alpha : Int), .bool h.left, .bool h.top]
def TH (w : World) (b : Nat) (h : TgaHd) : Prop := Blk w b 121 (tHdCs h)
theorem TH.all {w : World} {b : Nat} {h : TgaHd} (H : TH w b h) : w.cell? ⟨b, 0, none⟩ = some (.int .i64 (h.name : Int)) ∧ w.cell? ⟨b, 1, none⟩ = some (.bool h.map) ∧ w.cell? ⟨b, 2, none⟩ = some (.int .i64 (h.typ : Int)) ∧ w.cell? ⟨b, 3, none⟩ = some (.int .i64 (h.first : Int)) ∧ w.cell? ⟨b, 4, none⟩ = some (.int .i64 (h.count : Int)) ∧ w.cell? ⟨b, 5, none⟩ = some (.int .i64 (h.entry : Int)) ∧ w.cell? ⟨b, 6, none⟩ = some (.int .i64 (h.W : Int)) ∧ w.cell? ⟨b, 7, none⟩ = some (.int .i64 (h.H : Int)) ∧ w.cell? ⟨b, 8, none⟩ = some (.int .i64 (h.depth : Int)) ∧ w.cell? ⟨b, 9, none⟩ = some (.int .i64 (h.alpha : Int)) ∧ w.cell? ⟨b, 10, none⟩ = some (.bool h.left) ∧ w.cell? ⟨b, 11, none⟩ = some (.bool h.top) ∧ b < w.heap.size :=
  ⟨Blk.cell H 0, Blk.cell H 1, Blk.cell H 2, Blk.cell H 3, Blk.cell H 4, Blk.cell H 5, Blk.cell H 6, Blk.cell H 7, Blk.cell H 8, Blk.cell H 9, Blk.cell H 10, Blk.cell H 11, Blk.lt H⟩
theorem TH.allm {w : World} {b : Nat} {h : TgaHd} (H : TH w b h) {bm : Bool} (hm : h.map = bm) : w.cell? ⟨b, 0, none⟩ = some (.int .i64 (h.name : Int)) ∧ w.cell? ⟨b, 1, none⟩ = some (.bool bm) ∧ w.cell? ⟨b, 2, none⟩ = some (.int .i64 (h.typ : Int)) ∧ w.cell? ⟨b, 3, none⟩ = some (.int .i64 (h.first : Int)) ∧ w.cell? ⟨b, 4, none⟩ = some (.int .i64 (h.count : Int)) ∧ w.cell? ⟨b, 5, none⟩ = some (.int .i64 (h.entry : Int)) ∧ w.cell? ⟨b, 6, none⟩ = some (.int .i64 (h.W : Int)) ∧ w.cell? ⟨b, 7, none⟩ = some (.int .i64 (h.H : Int)) ∧ w.cell? ⟨b, 8, none⟩ = some (.int .i64 (h.depth : Int)) ∧ w.cell? ⟨b, 9, none⟩ = some (.int .i64 (h.alpha : Int)) ∧ w.cell? ⟨b, 10, none⟩ = some (.bool h.left) ∧ w.cell? ⟨b, 11, none⟩ = some (.bool h.top) ∧ b < w.heap.size :=
  ⟨Blk.cell H 0, (Blk.cell H 1).trans (by rw [← hm]; rfl), Blk.cell H 2, Blk.cell H 3, Blk.cell H 4, Blk.cell H 5, Blk.cell H 6, Blk.cell H 7, Blk.cell H 8, Blk.cell H 9, Blk.cell H 10, Blk.cell H 11, Blk.lt H⟩
theorem tgaMapped_iff (h : TgaHd) : (h.typ = 1 ∨ h.typ = 9) ↔ h.mapped := by
  unfold TgaHd.mapped tgaPlain
  by_cases hp : TgaPacked h.typ
  · rw [if_pos hp]; unfold TgaPacked at hp; omega
  · rw [if_neg hp]; unfold TgaPacked at hp; omega
theorem tgaKindE (n : Nat) : ∃ v : Int, ∀ w, Calls Tryz.prog 174 #[.int .i64 (n : Int)] w fun e w' => e = .returned (.int .i64 v) ∧ w = w' := by
  by_cases hc : TgaCol n
  · exact ⟨_, fun w => tgaKindC hc rfl w⟩
  · refine ⟨5, fun w => ?_⟩
    have h1 : ¬ (n : Int) = 15 := by unfold TgaCol at hc; omega
    have h2 : ¬ (n : Int) = 16 := by unfold TgaCol at hc; omega
    have h3 : ¬ (n : Int) = 24 := by unfold TgaCol at hc; omega
    clear hc
    go_enter Tryz.func174, Tryz.ntmps174
    go_wp2_with fail
    go_ret
    exact ⟨rfl, rfl⟩
/-- what comes of a name and a map, with what is behind them -/
def tgaMapK (s : ByteArray) (h : TgaHd) (z a : Nat) (k : Nat → List Qc → Nat → Nat → Dec) : Dec :=
  if h.map = false then k a [] z 0
  else if ¬ h.mapped then .work 1 z a (if a + tgaEntry h.entry * h.count ≤ s.size then k (a + tgaEntry h.entry * h.count) [] z 0 else .give z (.fin (.bad 1 s.size)))
  else .hold (4 * h.count) z a (tgaPal s h (z + 4 * h.count) h.count a [] fun a M => k a M (z + 4 * h.count) (4 * h.count))
def tgaFromK (s : ByteArray) (h : TgaHd) (z : Nat) (k : Nat → List Qc → Nat → Nat → Dec) : Dec :=
  .work 1 z 18 (if 18 + h.name ≤ s.size then tgaMapK s h z (18 + h.name) k else .give z (.fin (.bad 1 s.size)))
/-- a map, or none -/
def TPal (w : World) (g : Nat) (h : TgaHd) (lv : Value) (M : List Qc) (m B : Nat) : Prop :=
  (¬ h.mapped ∧ lv = .pointer none ∧ M = [] ∧ m = 0) ∨ (h.mapped ∧ h.count ≤ 65535 ∧ M.length = h.count ∧ m = 4 * h.count ∧ ∃ l b d, lv = .pointer (some ⟨l, 0, none⟩) ∧ PalHas w l b g d h.count M ∧ B ≤ l ∧ B ≤ b ∧ B ≤ d)
def TMapPost (w w' : World) (p g : Nat) (s : ByteArray) (h : TgaHd) (y : Led) (e : Ending) : Prop :=
  ∃ y', LedAt w' g y' ∧ y'.Ok ∧ Turn [p, g] w w' ∧
    ((∃ kk aa : Nat, kk ≠ 0 ∧ e = .returned (.tuple #[.pointer none, tFlt kk aa]) ∧ y'.bytes = y.bytes ∧ ∀ (z : Nat) k, (z : Int) ≤ y.bytes → (tgaFromK s h z k).run y = ((y'.give (z : Int)).1, .bad kk aa)) ∨
     (∃ (lv : Value) (M : List Qc) (m a' : Nat), e = .returned (.tuple #[lv, tFlt0]) ∧ SrcAt w' p g s 0 s.size a' ∧ a' ≤ s.size ∧ y'.reason = 0 ∧ y'.bytes = y.bytes + (m : Int) ∧ TPal w' g h lv M m w.heap.size ∧ ∀ (z : Nat) k, (tgaFromK s h z k).run y = (k a' M (z + m) m).run y'))
theorem srcOkT {s : ByteArray} {a : Nat} (h : s.size ≤ 1099511627776) (ha : a ≤ s.size) : SrcOk s 0 s.size a := ⟨Nat.zero_le _, ha, Nat.le_refl _, h⟩
set_option maxRecDepth 100000 in
set_option maxHeartbeats 4000000 in
theorem tgaMap_none {w : World} {p g : Nat} {s : ByteArray} {h : TgaHd} {y : Led} (hm : h.map = false) (hnm : ¬ h.mapped) (hsm : s.size ≤ 1099511627776) (h18 : 18 ≤ s.size) (S0 : SrcAt w p g s 0 s.size 18) (L0 : LedAt w g y) (ok : y.Ok) (hr : y.reason = 0) :
    Calls Tryz.prog 121 #[.pointer (some ⟨p, 0, none⟩), tHdV h] w fun e w' => TMapPost w w' p g s h y e := by
  have S1 : SrcAt ((w.alloc (.cells #[.int .i64 (h.name : Int), .bool h.map, .int .i64 (h.typ : Int), .int .i64 (h.first : Int), .int .i64 (h.count : Int), .int .i64 (h.entry : Int), .int .i64 (h.W : Int), .int .i64 (h.H : Int), .int .i64 (h.depth : Int), .int .i64 (h.alpha : Int), .bool h.left, .bool h.top] 121)).alloc (.cells #[.int .i64 0, .int .i64 0, .int .i64 0] 34)) p g s 0 s.size 18 := Blk.alloc (Blk.alloc S0 _) _
  have L1 : LedAt ((w.alloc (.cells #[.int .i64 (h.name : Int), .bool h.map, .int .i64 (h.typ : Int), .int .i64 (h.first : Int), .int .i64 (h.count : Int), .int .i64 (h.entry : Int), .int .i64 (h.W : Int), .int .i64 (h.H : Int), .int .i64 (h.depth : Int), .int .i64 (h.alpha : Int), .bool h.left, .bool h.top] 121)).alloc (.cells #[.int .i64 0, .int .i64 0, .int .i64 0] 34)) g y := Blk.alloc (Blk.alloc L0 _) _
  have T1 : Turn [p, g] w ((w.alloc (.cells #[.int .i64 (h.name : Int), .bool h.map, .int .i64 (h.typ : Int), .int .i64 (h.first : Int), .int .i64 (h.count : Int), .int .i64 (h.entry : Int), .int .i64 (h.W : Int), .int .i64 (h.H : Int), .int .i64 (h.depth : Int), .int .i64 (h.alpha : Int), .bool h.left, .bool h.top] 121)).alloc (.cells #[.int .i64 0, .int .i64 0, .int .i64 0] 34)) := ((Turn.refl _ _).alloc _).alloc _
  have H1 : TH ((w.alloc (.cells #[.int .i64 (h.name : Int), .bool h.map, .int .i64 (h.typ : Int), .int .i64 (h.first : Int), .int .i64 (h.count : Int), .int .i64 (h.entry : Int), .int .i64 (h.W : Int), .int .i64 (h.H : Int), .int .i64 (h.depth : Int), .int .i64 (h.alpha : Int), .bool h.left, .bool h.top] 121)).alloc (.cells #[.int .i64 0, .int .i64 0, .int .i64 0] 34)) w.heap.size h := Blk.alloc (Blk.new _ _ _) _
  have F1 : FB ((w.alloc (.cells #[.int .i64 (h.name : Int), .bool h.map, .int .i64 (h.typ : Int), .int .i64 (h.first : Int), .int .i64 (h.count : Int), .int .i64 (h.entry : Int), .int .i64 (h.W : Int), .int .i64 (h.H : Int), .int .i64 (h.depth : Int), .int .i64 (h.alpha : Int), .bool h.left, .bool h.top] 121)).alloc (.cells #[.int .i64 0, .int .i64 0, .int .i64 0] 34)) (w.heap.size + 1) 0 0 0 := Blk.new_at _ _ _ (by simp)
  have nh : w.heap.size ∉ [p, g] := by have := Blk.lt S0; have := Blk.lt L0; simp; omega
  have nf : w.heap.size + 1 ∉ [p, g] := by have := Blk.lt S0; have := Blk.lt L0; simp; omega
  have HSK := Lib.hid (srcSkip_ways h.name S1 (srcOkT hsm h18) L1 ok hr)
  obtain ⟨kv, hkv⟩ := tgaKindE h.entry
  have HKI := Lib.hid hkv
  have HT := Lib.hid T1
  have HF := Lib.hid F1
  have HH := Lib.hid H1
  have HY := Lib.hid (And.intro ok (And.intro hr (And.intro hsm h18)))
  have hfl : w.heap.size ≤ w.heap.size + 1 := by omega
  clear S1 L1 T1 F1 H1 S0 L0 ok hr hkv hsm h18
  unfold tHdV
  have HM := Lib.hid hm
  have HNM := Lib.hid hnm
  clear hm hnm
  go_enter Tryz.func121, Tryz.ntmps121
  go_wp2_with (first
    | (go_at_call 43; refine (srcFault_is 2 s2 l2 nr).mono ?_; rintro e w3 ⟨rfl, b3⟩; have l3 := Blk.below l2 b3 (Blk.lt l2); have F3 := FB.below F2 b3; have T3 := T2.trans (Turn.of_below (S := [p, g]) b3); obtain ⟨f0, f1, f2', z0, z1, z2, fl⟩ := FB.all F3)
    | (go_at_call 173; refine (size_any _ _).mono ?_; rintro e w4 ⟨rfl, b4⟩; have H4 := Blk.below H2 b4 (Blk.lt H2); have F4 := FB.below F2 b4; have T4 := T2.trans (Turn.of_below (S := [p, g]) b4); have s4 := Blk.below s2 b4 (Blk.lt s2); have l4 := Blk.below l2 b4 (Blk.lt l2); clear c0 c1 c2 c3 c4 c5 c6 c7 c8 c9 c10 c11 hlb; obtain ⟨c0, c1, c2, c3, c4, c5, c6, c7, c8, c9, c10, c11, hlb⟩ := TH.allm H4 HM.out; obtain ⟨f0, f1, f2', z0, z1, z2, fl⟩ := FB.all F4)
    | (go_at_call 174; refine (HKI.out _).mono ?_; rintro e w3 ⟨rfl, rfl⟩)
    | (go_at_call 172; refine HSK.out.mono ?_; rintro e w2 ⟨y2, l2, ok2, b2, t2, hor⟩; have H2 : TH w2 w.heap.size h := Blk.turn HH.out t2 nh; have F2 := FB.turn HF.out t2 nf; have T2 := HT.out.trans t2; obtain ⟨c0, c1, c2, c3, c4, c5, c6, c7, c8, c9, c10, c11, hlb⟩ := H2.allm HM.out; rcases hor with ⟨kk, aa, rfl, s2, nr, nrun⟩ | ⟨rfl, s2, yr2, hle, hw2⟩))
  · exact bodyPost_ret (v := .tuple #[.pointer none, tFlt kk aa]) (by simp [results, Tryz.results121, go_sem, f0, f1, f2', tFlt]) rfl ⟨y2, Blk.st3 l3 (Blk.ne_ l3 F3 (by decide)), ok2, Turn.st3 T3 (.inr hfl), .inl ⟨kk, aa, nr.ne, rfl, b2, fun z k _ => nrun z _⟩⟩
  · exact bodyPost_ret (v := .tuple #[.pointer none, tFlt0]) (by simp [results, Tryz.results121, go_sem, f0, f1, f2', tFlt0]) rfl ⟨y2, Blk.st3 l4 (Blk.ne_ l4 F4 (by decide)), ok2, Turn.st3 T4 (.inr hfl), .inr ⟨_, [], 0, 18 + h.name, rfl, Blk.st3 s4 (Blk.ne_ s4 F4 (by decide)), hle, yr2, by omega, .inl ⟨HNM.out, rfl, rfl, rfl⟩, fun z k => by unfold tgaFromK; rw [run_work_yes hw2, if_pos hle]; unfold tgaMapK; rw [if_pos HM.out]; rfl⟩⟩
-- MAP2
set_option maxRecDepth 100000 in
set_option maxHeartbeats 4000000 in
theorem tgaMap_skip {w : World} {p g : Nat} {s : ByteArray} {h : TgaHd} {y : Led} (hm : h.map = true) (hnm : ¬ h.mapped) (hcol : TgaCol h.entry) (hc2 : h.count ≤ 65535) (hsm : s.size ≤ 1099511627776) (h18 : 18 ≤ s.size) (S0 : SrcAt w p g s 0 s.size 18) (L0 : LedAt w g y) (ok : y.Ok) (hr : y.reason = 0) :
    Calls Tryz.prog 121 #[.pointer (some ⟨p, 0, none⟩), tHdV h] w fun e w' => TMapPost w w' p g s h y e := by
  have S1 : SrcAt ((w.alloc (.cells #[.int .i64 (h.name : Int), .bool h.map, .int .i64 (h.typ : Int), .int .i64 (h.first : Int), .int .i64 (h.count : Int), .int .i64 (h.entry : Int), .int .i64 (h.W : Int), .int .i64 (h.H : Int), .int .i64 (h.depth : Int), .int .i64 (h.alpha : Int), .bool h.left, .bool h.top] 121)).alloc (.cells #[.int .i64 0, .int .i64 0, .int .i64 0] 34)) p g s 0 s.size 18 := Blk.alloc (Blk.alloc S0 _) _
  have L1 : LedAt ((w.alloc (.cells #[.int .i64 (h.name : Int), .bool h.map, .int .i64 (h.typ : Int), .int .i64 (h.first : Int), .int .i64 (h.count : Int), .int .i64 (h.entry : Int), .int .i64 (h.W : Int), .int .i64 (h.H : Int), .int .i64 (h.depth : Int), .int .i64 (h.alpha : Int), .bool h.left, .bool h.top] 121)).alloc (.cells #[.int .i64 0, .int .i64 0, .int .i64 0] 34)) g y := Blk.alloc (Blk.alloc L0 _) _
  have T1 : Turn [p, g] w ((w.alloc (.cells #[.int .i64 (h.name : Int), .bool h.map, .int .i64 (h.typ : Int), .int .i64 (h.first : Int), .int .i64 (h.count : Int), .int .i64 (h.entry : Int), .int .i64 (h.W : Int), .int .i64 (h.H : Int), .int .i64 (h.depth : Int), .int .i64 (h.alpha : Int), .bool h.left, .bool h.top] 121)).alloc (.cells #[.int .i64 0, .int .i64 0, .int .i64 0] 34)) := ((Turn.refl _ _).alloc _).alloc _
  have H1 : TH ((w.alloc (.cells #[.int .i64 (h.name : Int), .bool h.map, .int .i64 (h.typ : Int), .int .i64 (h.first : Int), .int .i64 (h.count : Int), .int .i64 (h.entry : Int), .int .i64 (h.W : Int), .int .i64 (h.H : Int), .int .i64 (h.depth : Int), .int .i64 (h.alpha : Int), .bool h.left, .bool h.top] 121)).alloc (.cells #[.int .i64 0, .int .i64 0, .int .i64 0] 34)) w.heap.size h := Blk.alloc (Blk.new _ _ _) _
  have F1 : FB ((w.alloc (.cells #[.int .i64 (h.name : Int), .bool h.map, .int .i64 (h.typ : Int), .int .i64 (h.first : Int), .int .i64 (h.count : Int), .int .i64 (h.entry : Int), .int .i64 (h.W : Int), .int .i64 (h.H : Int), .int .i64 (h.depth : Int), .int .i64 (h.alpha : Int), .bool h.left, .bool h.top] 121)).alloc (.cells #[.int .i64 0, .int .i64 0, .int .i64 0] 34)) (w.heap.size + 1) 0 0 0 := Blk.new_at _ _ _ (by simp)
  have nh : w.heap.size ∉ [p, g] := by have := Blk.lt S0; have := Blk.lt L0; simp; omega
  have nf : w.heap.size + 1 ∉ [p, g] := by have := Blk.lt S0; have := Blk.lt L0; simp; omega
  have HSK := Lib.hid (srcSkip_ways h.name S1 (srcOkT hsm h18) L1 ok hr)
  obtain ⟨hk, hz, hz4⟩ := tgaKind_size hcol
  have HKI := Lib.hid (fun w => tgaKindC hcol rfl w)
  have HZS := Lib.hid (fun w => size_any (tgaKind h.entry : Int) w)
  rw [hk] at HZS
  have HMP := Lib.hid (fun w => tgaMappedC h w)
  obtain ⟨z, hzz⟩ : ∃ z, tgaEntry h.entry = z := ⟨_, rfl⟩
  have HZ := Lib.hid hzz
  rw [hzz] at HZS hz4 hz
  have HT := Lib.hid T1
  have HF := Lib.hid F1
  have HH := Lib.hid H1
  have HY := Lib.hid (And.intro ok (And.intro hr (And.intro hsm h18)))
  have hfl : w.heap.size ≤ w.heap.size + 1 := by omega
  clear S1 L1 T1 F1 H1 S0 L0 ok hr hk hsm h18 hzz
  unfold tHdV
  have hmd : decide (h.typ = 1 ∨ h.typ = 9) = false := decide_eq_false (fun e => hnm ((tgaMapped_iff h).1 e))
  rw [hmd] at HMP
  have HM := Lib.hid hm
  clear hm
  obtain ⟨N, hN⟩ : ∃ N, z * h.count = N := ⟨_, rfl⟩
  have hNB : N ≤ 4 * 65535 := by rw [← hN]; exact Nat.mul_le_mul hz4 hc2
  have hNI : IntKind.i64.wrap ((z : Int) * (h.count : Int)) = (N : Int) := by rw [← Int.natCast_mul, hN]; exact IntWalk.i64_in _ (by omega)
  have HNE := Lib.hid hN
  clear hN hmd
  go_enter Tryz.func121, Tryz.ntmps121
  go_wp2_with (first
    | (go_at_call 43; refine (srcFault_is 2 s6 l6 nr6).mono ?_; rintro e w7 ⟨rfl, b7⟩; have l7 := Blk.below l6 b7 (Blk.lt l6); have F7 := FB.below F6 b7; have T7 := T6.trans (Turn.of_below (S := [p, g]) b7); clear f0 f1 f2' z0 z1 z2 fl; obtain ⟨f0, f1, f2', z0, z1, z2, fl⟩ := FB.all F7)
    | (go_at_call 172; refine (srcSkip_ways N s5 (srcOkT HY.out.2.2.1 hle) l5 ok2 yr2).mono ?_; rintro e w6 ⟨y6, l6, ok6, b6, t6, hor⟩; have F6 := FB.turn F5 t6 nf; have T6 := T5.trans t6; clear f0 f1 f2' z0 z1 z2 fl c0 c1 c2 c3 c4 c5 c6 c7 c8 c9 c10 c11 hlb; obtain ⟨f0, f1, f2', z0, z1, z2, fl⟩ := FB.all F6; rcases hor with ⟨kk, aa, rfl, s6, nr6, nrun6⟩ | ⟨rfl, s6, yr6, hle6, hw6⟩)
    | (go_at_call 175; have hM0 := HMP.out; unfold tHdV at hM0; rw [HM.out] at hM0; refine (hM0 _).mono ?_; clear hM0; rintro e w5 ⟨rfl, b5⟩; have H5 := Blk.below H4 b5 (Blk.lt H4); have F5 := FB.below F4 b5; have T5 := T4.trans (Turn.of_below (S := [p, g]) b5); have s5 := Blk.below s4 b5 (Blk.lt s4); have l5 := Blk.below l4 b5 (Blk.lt l4); clear c0 c1 c2 c3 c4 c5 c6 c7 c8 c9 c10 c11 hlb f0 f1 f2' z0 z1 z2 fl; obtain ⟨c0, c1, c2, c3, c4, c5, c6, c7, c8, c9, c10, c11, hlb⟩ := TH.allm H5 HM.out; obtain ⟨f0, f1, f2', z0, z1, z2, fl⟩ := FB.all F5)
    | (go_at_call 43; refine (srcFault_is 2 s2 l2 nr).mono ?_; rintro e w3 ⟨rfl, b3⟩; have l3 := Blk.below l2 b3 (Blk.lt l2); have F3 := FB.below F2 b3; have T3 := T2.trans (Turn.of_below (S := [p, g]) b3); obtain ⟨f0, f1, f2', z0, z1, z2, fl⟩ := FB.all F3)
    | (go_at_call 173; refine (HZS.out _).mono ?_; rintro e w4 ⟨rfl, b4⟩; have H4 := Blk.below H2 b4 (Blk.lt H2); have F4 := FB.below F2 b4; have T4 := T2.trans (Turn.of_below (S := [p, g]) b4); have s4 := Blk.below s2 b4 (Blk.lt s2); have l4 := Blk.below l2 b4 (Blk.lt l2); clear c0 c1 c2 c3 c4 c5 c6 c7 c8 c9 c10 c11 hlb; obtain ⟨c0, c1, c2, c3, c4, c5, c6, c7, c8, c9, c10, c11, hlb⟩ := TH.allm H4 HM.out; obtain ⟨f0, f1, f2', z0, z1, z2, fl⟩ := FB.all F4)
    | (go_at_call 174; refine (HKI.out _).mono ?_; rintro e w3 ⟨rfl, rfl⟩)
    | (go_at_call 172; refine HSK.out.mono ?_; rintro e w2 ⟨y2, l2, ok2, b2, t2, hor⟩; have H2 : TH w2 w.heap.size h := Blk.turn HH.out t2 nh; have F2 := FB.turn HF.out t2 nf; have T2 := HT.out.trans t2; obtain ⟨c0, c1, c2, c3, c4, c5, c6, c7, c8, c9, c10, c11, hlb⟩ := H2.allm HM.out; rcases hor with ⟨kk, aa, rfl, s2, nr, nrun⟩ | ⟨rfl, s2, yr2, hle, hw2⟩))
  · exact bodyPost_ret (v := .tuple #[.pointer none, tFlt kk aa]) (by simp [results, Tryz.results121, go_sem, f0, f1, f2', tFlt]) rfl ⟨y2, Blk.st3 l3 (Blk.ne_ l3 F3 (by decide)), ok2, Turn.st3 T3 (.inr hfl), .inl ⟨kk, aa, nr.ne, rfl, b2, fun z k _ => nrun z _⟩⟩
  · exact bodyPost_ret (v := .tuple #[.pointer none, tFlt kk aa]) (by simp [results, Tryz.results121, go_sem, f0, f1, f2', tFlt]) rfl ⟨y6, Blk.st3 l7 (Blk.ne_ l7 F7 (by decide)), ok6, Turn.st3 T7 (.inr hfl), .inl ⟨kk, aa, nr6.ne, rfl, b6.trans b2, fun zz k _ => by unfold tgaFromK; rw [run_work_yes hw2, if_pos hle]; unfold tgaMapK; rw [if_neg (by rw [HM.out]; decide), if_pos hnm, HZ.out, HNE.out]; exact nrun6 zz _⟩⟩
  · exact bodyPost_ret (v := .tuple #[.pointer none, tFlt0]) (by simp [results, Tryz.results121, go_sem, f0, f1, f2', tFlt0]) rfl ⟨y6, Blk.st3 l6 (Blk.ne_ l6 F6 (by decide)), ok6, Turn.st3 T6 (.inr hfl), .inr ⟨_, [], 0, 18 + h.name + N, rfl, Blk.st3 s6 (Blk.ne_ s6 F6 (by decide)), hle6, yr6, by omega, .inl ⟨hnm, rfl, rfl, rfl⟩, fun zz k => by unfold tgaFromK; rw [run_work_yes hw2, if_pos hle]; unfold tgaMapK; rw [if_neg (by rw [HM.out]; decide), if_pos hnm, HZ.out, HNE.out, run_work_yes hw6, if_pos hle6]; rfl⟩⟩
theorem NoRead.led {x y : Led} {a t kk aa : Nat} (e : y.reason = x.reason) (h : NoRead x a t kk aa) : NoRead y a t kk aa := by
  unfold NoRead at h ⊢
  rw [e]
  exact h
theorem led_give_keeps {x : Led} {n : Nat} (ok : x.Ok) (h : (n : Int) ≤ x.bytes) : (x.give (n : Int)).1.reason = x.reason ∧ (x.give (n : Int)).1.bytes = x.bytes - n ∧ (x.give (n : Int)).1.Ok := by
  have e := led_give_yes (x := x) (n := (n : Int)) (by omega) h
  exact ⟨by rw [e], by rw [e], ok.give _⟩
def PalNewPost (w w' : World) (g m : Nat) (y : Led) (e : Ending) : Prop :=
  ∃ (y' : Led) (lv : Value) (c : Int), e = .returned (.tuple #[lv, .int .i64 c]) ∧ LedAt w' g y' ∧ y'.Ok ∧ Turn [g] w w' ∧
    ((lv = .pointer none ∧ c = 4 ∧ y'.reason ≠ 0 ∧ y'.bytes = y.bytes ∧ ∀ z a k, (Dec.hold (4 * m) z a k).run y = ((y'.give (z : Int)).1, .bad 4 a)) ∨
     (∃ p b d, lv = .pointer (some ⟨p, 0, none⟩) ∧ c = 0 ∧ PalHas w' p b g d m [] ∧ w.heap.size ≤ p ∧ w.heap.size ≤ b ∧ w.heap.size ≤ d ∧ y'.reason = 0 ∧ y'.bytes = y.bytes + ((4 * m : Nat) : Int) ∧ ∀ z a k, (Dec.hold (4 * m) z a k).run y = k.run y'))
theorem palNew_ways {w : World} {g m : Nat} {y : Led} (l : LedAt w g y) (ok : y.Ok) (hr : y.reason = 0) (h1 : 1 ≤ m) (h2 : m ≤ 65535) :
    Calls Tryz.prog 142 #[.pointer (some ⟨g, 0, none⟩), .int .i64 (m : Int)] w fun e w' => PalNewPost w w' g m y e := by
  obtain ⟨y1, v, hw⟩ : ∃ y1 v, y.take ((4 * m : Nat) : Int) = (y1, v) := ⟨_, _, rfl⟩
  have ok1 : y1.Ok := by have := ok.take ((4 * m : Nat) : Int); rw [hw] at this; exact this
  cases v with
  | false =>
    obtain ⟨yr1, yb1⟩ := led_take_no (x := y) (n := ((4 * m : Nat) : Int)) (by rw [hw]) hr
    rw [hw] at yr1 yb1
    refine (palNew_no l ok hw h1 (by omega)).mono ?_
    rintro e w' ⟨rfl, q1, q2⟩
    exact ⟨y1, _, _, rfl, q1, ok1, q2, .inl ⟨rfl, rfl, yr1, yb1, fun z a k => run_hold_no hw⟩⟩
  | true =>
    obtain ⟨_, yr1, yb1, _⟩ := led_take_yes (x := y) (n := ((4 * m : Nat) : Int)) (by rw [hw])
    rw [hw] at yr1 yb1
    refine (palNew_yes l ok hw h1 (by omega)).mono ?_
    rintro e w' ⟨p, b, d, rfl, q1, q2, q3, q4, q5, q6, q7⟩
    exact ⟨y1, _, _, rfl, q3, ok1, q7, .inr ⟨p, b, d, rfl, rfl, has_new q1 q2, q4, q5, q6, yr1, yb1, fun z a k => run_hold_yes hw⟩⟩
theorem PalHas.drewT {w : World} {p b g d m : Nat} {L : List Qc} (h : PalHas w p b g d m L) : PalHas w.drew p b g d m L := h.turn (S := []) ((Turn.refl _ _).drew) (by simp) (by simp) (by simp)
theorem palFree_has {w : World} {p b g d m : Nat} {L : List Qc} {x : Led} (h : PalHas w p b g d m L) (k : LedAt w g x) (ok : x.Ok) (hb : ((4 * m : Nat) : Int) ≤ x.bytes) :
    Calls Tryz.prog 91 #[.pointer (some ⟨p, 0, none⟩)] w fun e w' => e = .returned (.bool true) ∧ LedAt w' g (x.give ((4 * m : Nat) : Int)).1 ∧ Turn [p, b, g] w w' := by
  obtain ⟨h1, _, rest, h3, h4⟩ := h
  refine (palFree_yes h1 h3 k ok (give_all (by rw [List.length_append, flat_len]; exact h4) hb)).mono ?_
  rintro e w' ⟨rfl, _, _, q1, q2⟩
  exact ⟨rfl, q1, q2⟩
set_option maxRecDepth 100000 in
set_option maxHeartbeats 4000000 in
theorem tgaMap_pal {w : World} {p g : Nat} {s : ByteArray} {h : TgaHd} {y : Led} (hm : h.map = true) (hmm : h.mapped) (hcol : TgaCol h.entry) (hc1 : 1 ≤ h.count) (hc2 : h.count ≤ 65535) (hsm : s.size ≤ 1099511627776) (h18 : 18 ≤ s.size) (S0 : SrcAt w p g s 0 s.size 18) (L0 : LedAt w g y) (ok : y.Ok) (hr : y.reason = 0) :
    Calls Tryz.prog 121 #[.pointer (some ⟨p, 0, none⟩), tHdV h] w fun e w' => TMapPost w w' p g s h y e := by
  have npg : p ∉ [g] := by simpa using Blk.ne_ S0 L0 (by decide)
  have S1 : SrcAt ((w.alloc (.cells #[.int .i64 (h.name : Int), .bool h.map, .int .i64 (h.typ : Int), .int .i64 (h.first : Int), .int .i64 (h.count : Int), .int .i64 (h.entry : Int), .int .i64 (h.W : Int), .int .i64 (h.H : Int), .int .i64 (h.depth : Int), .int .i64 (h.alpha : Int), .bool h.left, .bool h.top] 121)).alloc (.cells #[.int .i64 0, .int .i64 0, .int .i64 0] 34)) p g s 0 s.size 18 := Blk.alloc (Blk.alloc S0 _) _
  have L1 : LedAt ((w.alloc (.cells #[.int .i64 (h.name : Int), .bool h.map, .int .i64 (h.typ : Int), .int .i64 (h.first : Int), .int .i64 (h.count : Int), .int .i64 (h.entry : Int), .int .i64 (h.W : Int), .int .i64 (h.H : Int), .int .i64 (h.depth : Int), .int .i64 (h.alpha : Int), .bool h.left, .bool h.top] 121)).alloc (.cells #[.int .i64 0, .int .i64 0, .int .i64 0] 34)) g y := Blk.alloc (Blk.alloc L0 _) _
  have T1 : Turn [p, g] w ((w.alloc (.cells #[.int .i64 (h.name : Int), .bool h.map, .int .i64 (h.typ : Int), .int .i64 (h.first : Int), .int .i64 (h.count : Int), .int .i64 (h.entry : Int), .int .i64 (h.W : Int), .int .i64 (h.H : Int), .int .i64 (h.depth : Int), .int .i64 (h.alpha : Int), .bool h.left, .bool h.top] 121)).alloc (.cells #[.int .i64 0, .int .i64 0, .int .i64 0] 34)) := ((Turn.refl _ _).alloc _).alloc _
  have H1 : TH ((w.alloc (.cells #[.int .i64 (h.name : Int), .bool h.map, .int .i64 (h.typ : Int), .int .i64 (h.first : Int), .int .i64 (h.count : Int), .int .i64 (h.entry : Int), .int .i64 (h.W : Int), .int .i64 (h.H : Int), .int .i64 (h.depth : Int), .int .i64 (h.alpha : Int), .bool h.left, .bool h.top] 121)).alloc (.cells #[.int .i64 0, .int .i64 0, .int .i64 0] 34)) w.heap.size h := Blk.alloc (Blk.new _ _ _) _
  have F1 : FB ((w.alloc (.cells #[.int .i64 (h.name : Int), .bool h.map, .int .i64 (h.typ : Int), .int .i64 (h.first : Int), .int .i64 (h.count : Int), .int .i64 (h.entry : Int), .int .i64 (h.W : Int), .int .i64 (h.H : Int), .int .i64 (h.depth : Int), .int .i64 (h.alpha : Int), .bool h.left, .bool h.top] 121)).alloc (.cells #[.int .i64 0, .int .i64 0, .int .i64 0] 34)) (w.heap.size + 1) 0 0 0 := Blk.new_at _ _ _ (by simp)
  have nh : w.heap.size ∉ [p, g] := by have := Blk.lt S0; have := Blk.lt L0; simp; omega
  have nf : w.heap.size + 1 ∉ [p, g] := by have := Blk.lt S0; have := Blk.lt L0; simp; omega
  have HSK := Lib.hid (srcSkip_ways h.name S1 (srcOkT hsm h18) L1 ok hr)
  obtain ⟨hk, hz, hz4⟩ := tgaKind_size hcol
  have HKI := Lib.hid (fun w => tgaKindC hcol rfl w)
  have HZS := Lib.hid (fun w => size_any (tgaKind h.entry : Int) w)
  rw [hk] at HZS
  have HMP := Lib.hid (fun w => tgaMappedC h w)
  obtain ⟨z, hzz⟩ : ∃ z, tgaEntry h.entry = z := ⟨_, rfl⟩
  have HZ := Lib.hid hzz
  rw [hzz] at HZS hz4 hz
  have HT := Lib.hid T1
  have HF := Lib.hid F1
  have HH := Lib.hid H1
  have HY := Lib.hid (And.intro ok (And.intro hr (And.intro hsm h18)))
  have hfl : w.heap.size ≤ w.heap.size + 1 := by omega
  clear S1 L1 T1 F1 H1 S0 L0 ok hr hk hsm h18 hzz
  unfold tHdV
  have hmd : decide (h.typ = 1 ∨ h.typ = 9) = true := decide_eq_true ((tgaMapped_iff h).2 hmm)
  rw [hmd] at HMP
  have HM := Lib.hid hm
  clear hm
  clear hmd
  go_enter Tryz.func121, Tryz.ntmps121
  go_upto_region 10 with (first
    | (go_at_call 175; have hM0 := HMP.out; unfold tHdV at hM0; rw [HM.out] at hM0; refine (hM0 _).mono ?_; clear hM0; rintro e w5 ⟨rfl, b5⟩; have H5 := Blk.below H4 b5 (Blk.lt H4); have F5 := FB.below F4 b5; have T5 := T4.trans (Turn.of_below (S := [p, g]) b5); have s5 := Blk.below s4 b5 (Blk.lt s4); have l5 := Blk.below l4 b5 (Blk.lt l4); clear c0 c1 c2 c3 c4 c5 c6 c7 c8 c9 c10 c11 hlb f0 f1 f2' z0 z1 z2 fl; obtain ⟨c0, c1, c2, c3, c4, c5, c6, c7, c8, c9, c10, c11, hlb⟩ := TH.allm H5 HM.out; obtain ⟨f0, f1, f2', z0, z1, z2, fl⟩ := FB.all F5)
    | (go_at_call 43; refine (srcFault_is 2 s2 l2 nr).mono ?_; rintro e w3 ⟨rfl, b3⟩; have l3 := Blk.below l2 b3 (Blk.lt l2); have F3 := FB.below F2 b3; have T3 := T2.trans (Turn.of_below (S := [p, g]) b3); obtain ⟨f0, f1, f2', z0, z1, z2, fl⟩ := FB.all F3)
    | (go_at_call 173; refine (HZS.out _).mono ?_; rintro e w4 ⟨rfl, b4⟩; have H4 := Blk.below H2 b4 (Blk.lt H2); have F4 := FB.below F2 b4; have T4 := T2.trans (Turn.of_below (S := [p, g]) b4); have s4 := Blk.below s2 b4 (Blk.lt s2); have l4 := Blk.below l2 b4 (Blk.lt l2); clear c0 c1 c2 c3 c4 c5 c6 c7 c8 c9 c10 c11 hlb; obtain ⟨c0, c1, c2, c3, c4, c5, c6, c7, c8, c9, c10, c11, hlb⟩ := TH.allm H4 HM.out; obtain ⟨f0, f1, f2', z0, z1, z2, fl⟩ := FB.all F4)
    | (go_at_call 174; refine (HKI.out _).mono ?_; rintro e w3 ⟨rfl, rfl⟩)
    | (go_at_call 172; refine HSK.out.mono ?_; rintro e w2 ⟨y2, l2, ok2, b2, t2, hor⟩; have H2 : TH w2 w.heap.size h := Blk.turn HH.out t2 nh; have F2 := FB.turn HF.out t2 nf; have T2 := HT.out.trans t2; obtain ⟨c0, c1, c2, c3, c4, c5, c6, c7, c8, c9, c10, c11, hlb⟩ := H2.allm HM.out; rcases hor with ⟨kk, aa, rfl, s2, nr, nrun⟩ | ⟨rfl, s2, yr2, hle, hw2⟩))
  · exact bodyPost_ret (v := .tuple #[.pointer none, tFlt kk aa]) (by simp [results, Tryz.results121, go_sem, f0, f1, f2', tFlt]) rfl ⟨y2, Blk.st3 l3 (Blk.ne_ l3 F3 (by decide)), ok2, Turn.st3 T3 (.inr hfl), .inl ⟨kk, aa, nr.ne, rfl, b2, fun z k _ => nrun z _⟩⟩
  refine wp_region_held_drew (S := (fun w9 => w9.cell? ⟨w.heap.size, 4, none⟩ = some (.int .i64 (h.count : Int)))) (by kernel_rfl) c4 (fun hHeld => ?_)
  refine tk 0 ?_
  (try simp only [sps])
  refine tk 2 ?_
  (try simp only [sps])
  refine tk 3 ?_
  (try simp only [sps])
  refine rdy 1 (fun K hK => ?_)
  go_simp
  refine (srcLedger_at (Blk.drew s5)).mono ?_
  rintro e w9 ⟨rfl, rfl⟩
  refine hK.out _ _ c4 ?_
  clear hK K hHeld
  intro hHeld
  (try simp only [sps])
  refine rdy 4 (fun K hK => ?_)
  go_simp
  refine (palNew_ways (Blk.drew l5) ok2 yr2 hc1 hc2).mono ?_
  rintro e w6 ⟨y6, lv6, c6v, rfl, l6, ok6, t6, hor6⟩
  have s6 : SrcAt w6 p g s 0 s.size (18 + h.name) := Blk.turn (Blk.drew s5) t6 npg
  have F6 : FB w6 (w.heap.size + 1) 0 0 0 := Blk.turn (Blk.drew F5) t6 (fun e => nf (by simp only [List.mem_cons, List.not_mem_nil, or_false] at e ⊢; exact .inr e))
  have H6 : TH w6 w.heap.size h := Blk.turn (Blk.drew H5) t6 (fun e => nh (by simp only [List.mem_cons, List.not_mem_nil, or_false] at e ⊢; exact .inr e))
  have T6 := T5.drew.trans (t6.mono (S' := [p, g]) (by simp))
  have hsz6 : w.heap.size ≤ w5.heap.size := T5.size
  clear c0 c1 c2 c3 c4 c5 c6 c7 c8 c9 c10 c11 hlb f0 f1 f2' z0 z1 z2 fl
  obtain ⟨c0, c1, c2, c3, c4, c5, c6, c7, c8, c9, c10, c11, hlb⟩ := TH.allm H6 HM.out
  obtain ⟨f0, f1, f2', z0, z1, z2, fl⟩ := FB.all F6
  refine hK.out _ _ (Blk.cell H6 4) ?_
  clear hK K hHeld
  intro hHeld
  (try simp only [sps])
  refine tk 5 ?_
  (try simp only [sps])
  refine tk 6 ?_
  (try simp only [sps])
  refine tk 7 ?_
  (try simp only [sps])
  refine tk 8 ?_
  (try simp only [sps])
  refine tk 9 ?_
  (try simp only [sps])
  refine wpAnyH_done (by kernel_rfl) ?_ _
  (try simp only [sps])
  rcases hor6 with ⟨rfl, rfl, yr6, b6, nrun6⟩ | ⟨l, bb, dd, rfl, rfl, P6, gl, gb, gd, yr6, b6, hrun6⟩
  · go_wp2_with (go_at_call 43; refine (srcFault_is 2 s6 l6 (.inl ⟨yr6, rfl, rfl⟩)).mono ?_; rintro e w7 ⟨rfl, b7⟩; have l7 := Blk.below l6 b7 (Blk.lt l6); have F7 := FB.below F6 b7; have T7 := T6.trans (Turn.of_below (S := [p, g]) b7); clear f0 f1 f2' z0 z1 z2 fl; obtain ⟨f0, f1, f2', z0, z1, z2, fl⟩ := FB.all F7)
    exact bodyPost_ret (v := .tuple #[.pointer none, tFlt 4 (18 + h.name)]) (by simp [results, Tryz.results121, go_sem, f0, f1, f2', tFlt]) rfl ⟨y6, Blk.st3 l7 (Blk.ne_ l7 F7 (by decide)), ok6, Turn.st3 T7 (.inr hfl), .inl ⟨4, 18 + h.name, by decide, rfl, b6.trans b2, fun zz k _ => by unfold tgaFromK; rw [run_work_yes hw2, if_pos hle]; unfold tgaMapK; rw [if_neg (by rw [HM.out]; decide), if_neg (by simpa using hmm)]; exact nrun6 zz _ _⟩⟩
  · go_upto_region 13 with fail
    refine wp_region_held_drew (S := (fun w9 => w9.cell? ⟨w.heap.size, 4, none⟩ = some (.int .i64 (h.count : Int)) ∧ w9.cell? ⟨w.heap.size, 5, none⟩ = some (.int .i64 (h.entry : Int)))) (by kernel_rfl) ⟨c4, c5⟩ (fun hHeld => ?_)
    refine tk 0 ?_
    (try simp only [sps])
    refine tk 1 ?_
    (try simp only [sps])
    refine tk 2 ?_
    (try simp only [sps])
    refine tk 3 ?_
    (try simp only [sps])
    refine tk 4 ?_
    (try simp only [sps])
    refine tk 5 ?_
    (try simp only [sps])
    refine rdy 6 (fun K hK => ?_)
    go_simp
    refine (HKI.out _).mono ?_
    rintro e w3 ⟨rfl, rfl⟩
    refine hK.out _ _ ⟨c4, c5⟩ ?_
    clear hK K hHeld
    intro hHeld
    (try simp only [sps])
    refine rdy 7 (fun K hK => ?_)
    go_simp
    refine (palRead_ways hcol P6.drewT hc2 (Blk.drew s6) hle HY.out.2.2.1 (Blk.drew l6) ok6 yr6).mono ?_
    rintro e w7 ⟨y7, M7, a7, rc, rfl, P7, l7, ok7, b7, t7, s7, ha7, hor7⟩
    have F7 : FB w7 (w.heap.size + 1) 0 0 0 := Blk.turn (Blk.drew F6) t7 (by have h1 := P6.pbd; obtain ⟨k1, _, rest, k3, _⟩ := P6; simp only [List.mem_cons, List.not_mem_nil, or_false, not_or] at nf ⊢; exact ⟨Blk.ne_ F6 k1 (by decide), Blk.ne_ F6 k3.row (by decide), nf.1, nf.2⟩)
    have H7 : TH w7 w.heap.size h := Blk.turn (Blk.drew H6) t7 (by have h1 := P6.pbd; obtain ⟨k1, _, rest, k3, _⟩ := P6; simp only [List.mem_cons, List.not_mem_nil, or_false, not_or] at nh ⊢; exact ⟨Blk.ne_ H6 k1 (by decide), Blk.ne_ H6 k3.row (by decide), nh.1, nh.2⟩)
    have T7 := T6.drew.next t7 (by intro i hi; simp only [List.mem_cons, List.not_mem_nil, or_false] at hi ⊢; rcases hi with rfl | rfl | rfl | rfl; exact .inr (Nat.le_trans hsz6 gl); exact .inr (Nat.le_trans hsz6 gd); exact .inl (.inl rfl); exact .inl (.inr rfl))
    clear c0 c1 c2 c3 c4 c5 c6 c7 c8 c9 c10 c11 hlb f0 f1 f2' z0 z1 z2 fl
    obtain ⟨f0, f1, f2', z0, z1, z2, fl⟩ := FB.all F7
    refine hK.out _ _ ⟨Blk.cell H7 4, Blk.cell H7 5⟩ ?_
    clear hK K hHeld
    intro hHeld
    (try simp only [sps])
    refine tk 8 ?_
    (try simp only [sps])
    refine wpAnyH_done (by kernel_rfl) ?_ _
    (try simp only [sps])
    rcases hor7 with ⟨rfl, hM7, yr7, run7⟩ | ⟨rfl, kk, aa, nr7, run7⟩
    · have HPP := Lib.hid P7
      go_wp2_with fail
      have pnf : l ≠ w.heap.size + 1 ∧ bb ≠ w.heap.size + 1 ∧ dd ≠ w.heap.size + 1 := by
        obtain ⟨k1, _, rest, k3, _⟩ := P7
        exact ⟨Blk.ne_ k1 F7 (by decide), Blk.ne_ k3.blk F7 (by decide), Blk.ne_ k3.row F7 (by decide)⟩
      exact bodyPost_ret (v := .tuple #[.pointer (some ⟨l, 0, none⟩), tFlt0]) (by simp [results, Tryz.results121, go_sem, f0, f1, f2', tFlt0]) rfl ⟨y7, Blk.st3 l7 (Blk.ne_ l7 F7 (by decide)), ok7, Turn.st3 T7 (.inr hfl), .inr ⟨_, M7, 4 * h.count, a7, rfl, Blk.st3 s7 (Blk.ne_ s7 F7 (by decide)), ha7, yr7, by omega, .inr ⟨hmm, hc2, hM7, rfl, l, bb, dd, rfl, HPP.out.turn (Turn.st3 (Turn.refl [w.heap.size + 1] _) (.inl (by simp))) (by simpa using pnf.1) (by simpa using pnf.2.1) (by simpa using pnf.2.2), Nat.le_trans hsz6 gl, Nat.le_trans hsz6 gb, Nat.le_trans hsz6 gd⟩, fun zz k => by unfold tgaFromK; rw [run_work_yes hw2, if_pos hle]; unfold tgaMapK; rw [if_neg (by rw [HM.out]; decide), if_neg (by simpa using hmm), hrun6, run7]⟩⟩
    · go_wp2_with (first
        | (go_at_call 43; refine (srcFault_is 2 s8 l8 (NoRead.led hr8 nr7)).mono ?_; rintro e w9 ⟨rfl, b9⟩; have l9 := Blk.below l8 b9 (Blk.lt l8); have F9 := FB.below F8 b9; have T9 := T8.trans (Turn.of_below (S := [p, g]) b9); clear f0 f1 f2' z0 z1 z2 fl; obtain ⟨f0, f1, f2', z0, z1, z2, fl⟩ := FB.all F9)
        | (go_at_call 91; refine (palFree_has P7 l7 ok7 (by have := ok2.y0; omega)).mono ?_; rintro e w8 ⟨rfl, l8, t8⟩; have F8 := FB.turn F7 t8 (by have h1 := P7.pbd; obtain ⟨k1, _, rest, k3, _⟩ := P7; simp only [List.mem_cons, List.not_mem_nil, or_false, not_or] at nf ⊢; exact ⟨Blk.ne_ F7 k1 (by decide), Blk.ne_ F7 k3.blk (by decide), nf.2⟩); have s8 := s7.turn t8 (by have h1 := P7.src s7; simp only [List.mem_cons, List.not_mem_nil, or_false, not_or]; exact ⟨h1.1.symm, h1.2.1.symm, Blk.ne_ s7 l7 (by decide)⟩); have T8 := T7.next t8 (by intro i hi; simp only [List.mem_cons, List.not_mem_nil, or_false] at hi ⊢; rcases hi with rfl | rfl | rfl; exact .inr (Nat.le_trans hsz6 gl); exact .inr (Nat.le_trans hsz6 gb); exact .inl (.inr rfl)); obtain ⟨hr8, hb8, ok8⟩ := led_give_keeps (x := y7) (n := 4 * h.count) ok7 (by have := ok2.y0; omega); clear f0 f1 f2' z0 z1 z2 fl; obtain ⟨f0, f1, f2', z0, z1, z2, fl⟩ := FB.all F8))
      exact bodyPost_ret (v := .tuple #[.pointer none, tFlt kk aa]) (by simp [results, Tryz.results121, go_sem, f0, f1, f2', tFlt]) rfl ⟨_, Blk.st3 l9 (Blk.ne_ l9 F9 (by decide)), ok8, Turn.st3 T9 (.inr hfl), .inl ⟨kk, aa, nr7.ne, rfl, by rw [hb8]; omega, fun zz k hzz => by unfold tgaFromK; rw [run_work_yes hw2, if_pos hle]; unfold tgaMapK; rw [if_neg (by rw [HM.out]; decide), if_neg (by simpa using hmm), hrun6, run7, give_give (by omega)]⟩⟩
theorem tgaMapC {w : World} {p g : Nat} {s : ByteArray} {h : TgaHd} {y : Led} (hh : h.Ok) (hsm : s.size ≤ 1099511627776) (h18 : 18 ≤ s.size) (S0 : SrcAt w p g s 0 s.size 18) (L0 : LedAt w g y) (ok : y.Ok) (hr : y.reason = 0) :
    Calls Tryz.prog 121 #[.pointer (some ⟨p, 0, none⟩), tHdV h] w fun e w' => TMapPost w w' p g s h y e := by
  cases hm : h.map with
  | false => exact tgaMap_none hm (fun e => by have := hh.m1 e; rw [hm] at this; cases this) hsm h18 S0 L0 ok hr
  | true =>
    by_cases hd : h.mapped
    · exact tgaMap_pal hm hd (hh.e1 hm) (hh.c1 hm) hh.c2 hsm h18 S0 L0 ok hr
    · exact tgaMap_skip hm hd (hh.e1 hm) hh.c2 hsm h18 S0 L0 ok hr
end Go.Proofs.YtlehkgkomjojmaaGreat
