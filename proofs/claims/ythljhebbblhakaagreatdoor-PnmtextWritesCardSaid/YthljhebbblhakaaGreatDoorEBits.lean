/- int's bits: and with a mask, or of parts that do not meet. A source's block, and its calls. -/
import Derived.Test.YthljhebbblhakaaGreatDoorEWords
import Derived.Laws.BitsAllLaws
import Derived.Laws.BitsLemmas
import Derived.Test.YthljhebbblhakaaGreatDoorESync
namespace Go.Proofs.YthljhebbblhakaaGreatDoor
open Go.RowKit
set_option linter.unusedVariables false

theorem ofInt64_nat (a : Nat) (ha : a < 9223372036854775808) : (BitVec.ofInt 64 (a : Int)).toNat = a := by
  rw [BitVec.ofInt_natCast, BitVec.toNat_ofNat]; exact Nat.mod_eq_of_lt (by omega)
theorem and64 (a b : Nat) (ha : a < 9223372036854775808) (hb : b < 9223372036854775808) : bits .and .i64 (a : Int) (b : Int) = ((a &&& b : Nat) : Int) := by
  have hx : a &&& b < 2 ^ 63 := Nat.and_lt_two_pow _ (by omega)
  show IntKind.i64.wrap ((BitVec.ofInt 64 (a : Int) &&& BitVec.ofInt 64 (b : Int)).toNat : Int) = _
  rw [BitVec.toNat_and, ofInt64_nat a ha, ofInt64_nat b hb, IntKind.wrap_i64]
  omega
theorem or64 (a b : Nat) (ha : a < 9223372036854775808) (hb : b < 9223372036854775808) : bits .or .i64 (a : Int) (b : Int) = ((a ||| b : Nat) : Int) := by
  have hx : a ||| b < 2 ^ 63 := Nat.or_lt_two_pow (by omega) (by omega)
  show IntKind.i64.wrap ((BitVec.ofInt 64 (a : Int) ||| BitVec.ofInt 64 (b : Int)).toNat : Int) = _
  rw [BitVec.toNat_or, ofInt64_nat a ha, ofInt64_nat b hb, IntKind.wrap_i64]
  omega
theorem and_mask (x k : Nat) (hx : x < 9223372036854775808) (hk : k ≤ 62) : bits .and .i64 (x : Int) (((2 ^ k - 1 : Nat)) : Int) = ((x % 2 ^ k : Nat) : Int) := by
  have h : 2 ^ k ≤ 2 ^ 62 := Nat.pow_le_pow_right (by omega) hk
  rw [and64 x _ hx (by omega), Nat.and_two_pow_sub_one_eq_mod]
theorem wrap64_id (n : Int) (h1 : -9223372036854775808 ≤ n) (h2 : n ≤ 9223372036854775807) : wrap64 n = n := by
  unfold wrap64; omega
end Go.Proofs.YthljhebbblhakaaGreatDoor
namespace Go.Proofs.YthljhebbblhakaaGreatDoor
open Go.RowKit
set_option linter.unusedVariables false

def srcCells (g : Nat) (s : ByteArray) (f t a : Nat) : Array Value := #[.pointer (some ⟨g, 0, none⟩), .string s, .int .i64 (f : Int), .int .i64 (t : Int), .int .i64 (a : Int)]
def SrcAt (w : World) (p g : Nat) (s : ByteArray) (f t a : Nat) : Prop := Blk w p 96 (srcCells g s f t a)
/-- the numbers of a source are in order -/
structure SrcOk (s : ByteArray) (f t a : Nat) : Prop where
  fa : f ≤ a
  at_ : a ≤ t
  ts : t ≤ s.size
  sm : s.size ≤ 1099511627776

section
variable {w w' : World} {p g : Nat} {s : ByteArray} {f t a : Nat} {x y : Led}
theorem SrcAt.l (h : SrcAt w p g s f t a) : w.cell? ⟨p, 0, none⟩ = some (.pointer (some ⟨g, 0, none⟩)) := Blk.cell h 0
theorem SrcAt.str (h : SrcAt w p g s f t a) : w.cell? ⟨p, 1, none⟩ = some (.string s) := Blk.cell h 1
theorem SrcAt.frm (h : SrcAt w p g s f t a) : w.cell? ⟨p, 2, none⟩ = some (.int .i64 (f : Int)) := Blk.cell h 2
theorem SrcAt.to_ (h : SrcAt w p g s f t a) : w.cell? ⟨p, 3, none⟩ = some (.int .i64 (t : Int)) := Blk.cell h 3
theorem SrcAt.pos (h : SrcAt w p g s f t a) : w.cell? ⟨p, 4, none⟩ = some (.int .i64 (a : Int)) := Blk.cell h 4
theorem SrcAt.ne (h : SrcAt w p g s f t a) (k : LedAt w g x) : p ≠ g := Blk.ne_ h k (by decide)
theorem SrcAt.turn {S : List Nat} (h : SrcAt w p g s f t a) (k : Turn S w w') (hp : p ∉ S) : SrcAt w' p g s f t a := Blk.turn h k hp

theorem srcAt_at (h : SrcAt w p g s f t a) : Calls Tryz.prog 52 #[.pointer (some ⟨p, 0, none⟩)] w fun e w' => e = .returned (.int .i64 (a : Int)) ∧ w = w' := by
  have c4 := h.pos
  clear h
  go_enter Tryz.func52, Tryz.ntmps52
  go_wp2_with fail
  go_ret
  exact ⟨rfl, rfl⟩
theorem srcLedger_at (h : SrcAt w p g s f t a) : Calls Tryz.prog 42 #[.pointer (some ⟨p, 0, none⟩)] w fun e w' => e = .returned (.pointer (some ⟨g, 0, none⟩)) ∧ w = w' := by
  have c0 := h.l
  clear h
  go_enter Tryz.func42, Tryz.ntmps42
  go_wp2_with fail
  go_ret
  exact ⟨rfl, rfl⟩
theorem srcLeft_at (h : SrcAt w p g s f t a) (o : SrcOk s f t a) : Calls Tryz.prog 123 #[.pointer (some ⟨p, 0, none⟩)] w fun e w' => e = .returned (.int .i64 ((t - a : Nat) : Int)) ∧ ∃ n, w' = w.drewN n := by
  have c3 := h.to_
  have c4 := h.pos
  obtain ⟨o1, o2, o3, o4⟩ := o
  have hi := IntWalk.i64_in ((t : Int) - a) (by omega)
  clear h
  go_enter Tryz.func123, Tryz.ntmps123
  go_wp2_with fail
  go_region
  all_goals go_wp2_with fail
  all_goals go_ret
  all_goals exact ⟨ret1 (vint (by omega)), _, rfl⟩

theorem srcNew_any (g : Nat) (s : ByteArray) (w : World) : Calls Tryz.prog 33 #[.pointer (some ⟨g, 0, none⟩), .string s] w fun e w' => ∃ p, e = .returned (.tuple #[.pointer (some ⟨p, 0, none⟩), .int .i64 0]) ∧ w.heap.size ≤ p ∧ SrcAt w' p g s 0 s.size 0 ∧ Below w.heap.size w w' := by
  go_enter Tryz.func33, Tryz.ntmps33
  go_wp2_with fail
  go_ret2
  exact ⟨_, rfl, Nat.le_refl _, (Blk.new _ _ _).eq_ (by simp [srcCells]), (Below.refl _ _).alloc (Nat.le_refl _) _⟩

theorem srcSeek_yes (n : Nat) (h : SrcAt w p g s f t a) (h0 : f ≤ n) (h1 : n ≤ t) : Calls Tryz.prog 124 #[.pointer (some ⟨p, 0, none⟩), .int .i64 (n : Int)] w fun e w' => e = .returned (.bool true) ∧ SrcAt w' p g s f t n ∧ Turn [p] w w' := by
  have c2 := h.frm
  have c3 := h.to_
  have c4 := h.pos
  have z4 := Blk.frozen h 4
  have n0 : ¬ (n : Int) < f := by omega
  have n1 : ¬ (t : Int) < n := by omega
  have HS := Lib.hid h
  clear h
  go_enter Tryz.func124, Tryz.ntmps124
  go_wp2_with fail
  go_ret
  exact ⟨rfl, (Blk.set_ HS.out 4 _).eq_ (by simp [srcCells]), (Turn.refl _ _).set_ 4 _ (by simp)⟩

theorem below_set3 {B : Nat} {a w : World} {b i j k : Nat} {u v x : Value} (h : Below B a w) (hb : B ≤ b) : Below B a (((w.setCell ⟨b, i, none⟩ u).setCell ⟨b, j, none⟩ v).setCell ⟨b, k, none⟩ x) := below_set (below_set (below_set h hb) hb) hb

theorem srcNext_spent (n : Int) (h : SrcAt w p g s f t a) (k : LedAt w g x) (ok : x.Ok) (e : x.work 1 = (y, false)) :
    Calls Tryz.prog 120 #[.pointer (some ⟨p, 0, none⟩), .int .i64 n] w fun e w' => e = .returned (.tuple #[.string ⟨#[]⟩, .bool false]) ∧ SrcAt w' p g s f t a ∧ LedAt w' g y ∧ Turn [p, g] w w' := by
  have c0 := h.l
  have hne := h.ne k
  have HS := Lib.hid h
  have HL := Lib.hid k
  have HK := Lib.hid ok
  have HE := Lib.hid e
  clear h k ok e
  go_enter Tryz.func120, Tryz.ntmps120
  go_wp2_with (go_at_call 82; refine (work_at HL.out HK.out HE.out).mono ?_; rintro e w1 ⟨rfl, h1, b1⟩)
  go_ret2
  exact ⟨rfl, Blk.turn HS.out (Turn.of_grown (S := [g]) b1 (by simp)) (not_mem_one hne), h1, Turn.of_grown b1 (by simp)⟩

theorem srcNext_short (n : Int) (h : SrcAt w p g s f t a) (o : SrcOk s f t a) (k : LedAt w g x) (ok : x.Ok) (e : x.work 1 = (y, true)) (hn : n < 0 ∨ (t : Int) - a < n) :
    Calls Tryz.prog 120 #[.pointer (some ⟨p, 0, none⟩), .int .i64 n] w fun e w' => e = .returned (.tuple #[.string ⟨#[]⟩, .bool false]) ∧ SrcAt w' p g s f t a ∧ LedAt w' g y ∧ Turn [p, g] w w' := by
  have c0 := h.l
  have hne := h.ne k
  have HS := Lib.hid h
  have HL := Lib.hid k
  have HK := Lib.hid ok
  have HE := Lib.hid e
  have HO := Lib.hid o
  obtain ⟨o1, o2, o3, o4⟩ := o
  clear h k ok e
  by_cases h0 : n < 0
  · clear hn
    go_enter Tryz.func120, Tryz.ntmps120
    go_wp2_with (go_at_call 82; refine (work_at HL.out HK.out HE.out).mono ?_; rintro e w1 ⟨rfl, h1, b1⟩)
    go_ret2
    exact ⟨rfl, Blk.turn HS.out (Turn.of_grown (S := [g]) b1 (by simp)) (not_mem_one hne), h1, Turn.of_grown b1 (by simp)⟩
  · have h1 : ((t - a : Nat) : Int) < n := by omega
    clear hn
    go_enter Tryz.func120, Tryz.ntmps120
    go_wp2_with (first
      | (go_at_call 123; refine (srcLeft_at hS HO.out).mono ?_; rintro e w2 ⟨rfl, nn, rfl⟩)
      | (go_at_call 82; refine (work_at HL.out HK.out HE.out).mono ?_; rintro e w1 ⟨rfl, h1, b1⟩; have hS := Blk.turn HS.out (Turn.of_grown (S := [g]) b1 (by simp)) (not_mem_one hne)))
    go_ret2
    exact ⟨rfl, Blk.drewN hS _, Blk.drewN h1 _, (Turn.of_grown b1 (by simp)).drewN _⟩

theorem srcNext_yes (n : Nat) (h : SrcAt w p g s f t a) (o : SrcOk s f t a) (k : LedAt w g x) (ok : x.Ok) (e : x.work 1 = (y, true)) (hn : a + n ≤ t) :
    Calls Tryz.prog 120 #[.pointer (some ⟨p, 0, none⟩), .int .i64 (n : Int)] w fun e w' => e = .returned (.tuple #[.string (s.extract a (a + n)), .bool true]) ∧ SrcAt w' p g s f t (a + n) ∧ LedAt w' g y ∧ Turn [p, g] w w' := by
  have c0 := h.l
  have hne := h.ne k
  have HS := Lib.hid h
  have HL := Lib.hid k
  have HK := Lib.hid ok
  have HE := Lib.hid e
  have HO := Lib.hid o
  obtain ⟨o1, o2, o3, o4⟩ := o
  clear h k ok e
  have h0 : ¬ (n : Int) < 0 := by omega
  have h1 : ¬ ((t - a : Nat) : Int) < (n : Int) := by omega
  have hi := IntWalk.i64_in ((a : Int) + n) (by omega)
  have j0 : (0 : Int) ≤ (a : Int) := by omega
  have j1 : (a : Int) ≤ (a : Int) + n := by omega
  have j2 : (a : Int) + n ≤ (s.size : Int) := by omega
  go_enter Tryz.func120, Tryz.ntmps120
  go_wp2_with (first
    | (go_at_call 123; refine (srcLeft_at hS HO.out).mono ?_; rintro e w2 ⟨rfl, nn, rfl⟩; have c1 := SrcAt.str hS; have c4 := SrcAt.pos hS; have z4 := Blk.frozen hS 4)
    | (go_at_call 82; refine (work_at HL.out HK.out HE.out).mono ?_; rintro e w1 ⟨rfl, hl, b1⟩; have hS := Blk.turn HS.out (Turn.of_grown (S := [g]) b1 (by simp)) (not_mem_one hne)))
  go_region
  go_wp2_with fail
  go_ret2
  exact ⟨rfl, ((Blk.drewN hS _).drew.set_ 4 _).eq_ (by simp [srcCells]), Blk.far (Blk.drew (Blk.drewN hl nn)) (fun e => hne e.symm) _, ((Turn.of_grown b1 (by simp)).drewN _).drew.set_ 4 _ (by simp)⟩

end
/-- the bytes of a text, as numbers -/
def nats (s : ByteArray) : List Nat := s.data.toList.map UInt8.toNat
def bat (s : ByteArray) (i : Nat) : Nat := (nats s).getD i 0
theorem nats_len (s : ByteArray) : (nats s).length = s.size := by unfold nats; rw [List.length_map, list_len]
theorem bat_eq {s : ByteArray} {i : Nat} (h : i < s.size) : bat s i = s[i].toNat := by
  unfold bat nats
  rw [List.getD_eq_getElem?_getD, List.getElem?_map, get_list h]
  rfl
theorem bat_lt (s : ByteArray) (i : Nat) : bat s i < 256 := by
  by_cases h : i < s.size
  · rw [bat_eq h]; exact UInt8.toNat_lt _
  · unfold bat
    rw [List.getD_eq_getElem?_getD, List.getElem?_eq_none (by rw [nats_len]; omega)]
    decide

theorem srcNum_nil (b : Bool) (w : World) : Calls Tryz.prog 121 #[.string ⟨#[]⟩, .bool b] w fun e w' => e = .returned (.int .i64 0) ∧ w = w' := by
  have hz : (⟨#[]⟩ : ByteArray).size = 0 := rfl
  go_enter Tryz.func121, Tryz.ntmps121
  go_wp2_with fail
  go_loopg [5, 6, 9] 0 (fun k v i j wr => v = .int .i64 0 ∧ j = .int .i64 0 ∧ w = wr)
  case atStart => exact ⟨rfl, rfl, rfl⟩
  case round =>
    obtain ⟨rfl, rfl, rfl⟩ := hrel
    go_wp2_with fail
    go_ret
    exact ⟨rfl, rfl⟩
theorem srcNum_one (c : UInt8) (w : World) : Calls Tryz.prog 121 #[.string (strOf [c]), .bool true] w fun e w' => e = .returned (.int .i64 (c.toNat : Int)) ∧ w = w' := by
  have hz : (strOf [c]).size = 1 := rfl
  have hlt := UInt8.toNat_lt c
  have hv : bits BinOp.or IntKind.i64 0 (wrap64 (wrap64 (c.toNat : Int))) = (c.toNat : Int) := by
    rw [wrap64_id (c.toNat : Int) (by omega) (by omega), wrap64_id (c.toNat : Int) (by omega) (by omega)]
    have := or64 0 c.toNat (by omega) (by omega)
    rw [Nat.zero_or] at this
    exact this
  go_enter Tryz.func121, Tryz.ntmps121
  go_wp2_with fail
  go_loopg [5, 6, 9] 1 (fun k v i j wr => ((k = 1 ∧ v = .int .i64 0 ∧ j = .int .i64 0) ∨ (k = 0 ∧ v = .int .i64 (c.toNat : Int) ∧ j = .int .i64 1)) ∧ w = wr)
  case atStart => exact ⟨.inl ⟨rfl, rfl, rfl⟩, rfl⟩
  case round =>
    obtain ⟨⟨rfl, rfl, rfl⟩ | ⟨rfl, rfl, rfl⟩, rfl⟩ := hrel
    · go_wp2_with fail
      go_roundg 0
      case measure => omega
      case rel => exact ⟨.inr ⟨rfl, vint hv, rfl⟩, rfl⟩
    · go_wp2_with fail
      go_ret
      exact ⟨rfl, rfl⟩

theorem extract_bat {s : ByteArray} {k : Nat} (h : k < s.size) : s.extract k (k + 1) = strOf [UInt8.ofNat (bat s k)] := by
  rw [extract_one h, bat_eq h]
  simp

section
variable {w w' : World} {p g : Nat} {s : ByteArray} {f t a : Nat} {x y : Led}
theorem srcU8_spent (h : SrcAt w p g s f t a) (k : LedAt w g x) (ok : x.Ok) (e : x.work 1 = (y, false)) :
    Calls Tryz.prog 69 #[.pointer (some ⟨p, 0, none⟩)] w fun e w' => e = .returned (.tuple #[.int .i64 0, .bool false]) ∧ SrcAt w' p g s f t a ∧ LedAt w' g y ∧ Turn [p, g] w w' := by
  have HN := Lib.hid (srcNext_spent 1 h k ok e)
  clear h k ok e
  go_enter Tryz.func69, Tryz.ntmps69
  go_wp2_with fail
  have hr : Calls Tryz.prog 95 #[.pointer (some ⟨p, 0, none⟩), .int .i64 1, .bool true] w fun e w' => e = .returned (.tuple #[.int .i64 0, .bool false]) ∧ SrcAt w' p g s f t a ∧ LedAt w' g y ∧ Turn [p, g] w w' := by
    go_enter Tryz.func95, Tryz.ntmps95
    go_wp2_with (first
      | (go_at_call 120; refine HN.out.mono ?_; rintro e w1 ⟨rfl, q1, q2, q3⟩)
      | (go_at_call 121; refine (srcNum_nil _ _).mono ?_; rintro e w2 ⟨rfl, rfl⟩))
    go_ret2
    exact ⟨rfl, q1, q2, q3⟩
  refine hr.mono ?_
  rintro e w1 ⟨rfl, q1, q2, q3⟩
  go_wp2_with fail
  go_ret2
  exact ⟨rfl, q1, q2, q3⟩
theorem srcU8_short (h : SrcAt w p g s f t a) (o : SrcOk s f t a) (k : LedAt w g x) (ok : x.Ok) (e : x.work 1 = (y, true)) (ha : ¬ a < t) :
    Calls Tryz.prog 69 #[.pointer (some ⟨p, 0, none⟩)] w fun e w' => e = .returned (.tuple #[.int .i64 0, .bool false]) ∧ SrcAt w' p g s f t a ∧ LedAt w' g y ∧ Turn [p, g] w w' := by
  have HN := Lib.hid (srcNext_short 1 h o k ok e (by omega))
  clear h k ok e
  go_enter Tryz.func69, Tryz.ntmps69
  go_wp2_with fail
  have hr : Calls Tryz.prog 95 #[.pointer (some ⟨p, 0, none⟩), .int .i64 1, .bool true] w fun e w' => e = .returned (.tuple #[.int .i64 0, .bool false]) ∧ SrcAt w' p g s f t a ∧ LedAt w' g y ∧ Turn [p, g] w w' := by
    go_enter Tryz.func95, Tryz.ntmps95
    go_wp2_with (first
      | (go_at_call 120; refine HN.out.mono ?_; rintro e w1 ⟨rfl, q1, q2, q3⟩)
      | (go_at_call 121; refine (srcNum_nil _ _).mono ?_; rintro e w2 ⟨rfl, rfl⟩))
    go_ret2
    exact ⟨rfl, q1, q2, q3⟩
  refine hr.mono ?_
  rintro e w1 ⟨rfl, q1, q2, q3⟩
  go_wp2_with fail
  go_ret2
  exact ⟨rfl, q1, q2, q3⟩
theorem srcU8_yes (h : SrcAt w p g s f t a) (o : SrcOk s f t a) (k : LedAt w g x) (ok : x.Ok) (e : x.work 1 = (y, true)) (ha : a < t) :
    Calls Tryz.prog 69 #[.pointer (some ⟨p, 0, none⟩)] w fun e w' => e = .returned (.tuple #[.int .i64 (bat s a : Int), .bool true]) ∧ SrcAt w' p g s f t (a + 1) ∧ LedAt w' g y ∧ Turn [p, g] w w' := by
  have HN := Lib.hid (srcNext_yes 1 h o k ok e (by omega))
  have hts := o.ts
  have hx := extract_bat (s := s) (k := a) (by omega)
  rw [hx] at HN
  have hc : ((UInt8.ofNat (bat s a)).toNat : Int) = (bat s a : Int) := ofNat8 (bat_lt s a)
  clear h k ok e hx
  go_enter Tryz.func69, Tryz.ntmps69
  go_wp2_with fail
  have hr : Calls Tryz.prog 95 #[.pointer (some ⟨p, 0, none⟩), .int .i64 1, .bool true] w fun e w' => e = .returned (.tuple #[.int .i64 (bat s a : Int), .bool true]) ∧ SrcAt w' p g s f t (a + 1) ∧ LedAt w' g y ∧ Turn [p, g] w w' := by
    go_enter Tryz.func95, Tryz.ntmps95
    go_wp2_with (first
      | (go_at_call 120; refine HN.out.mono ?_; rintro e w1 ⟨rfl, q1, q2, q3⟩)
      | (go_at_call 121; refine (srcNum_one _ _).mono ?_; rintro e w2 ⟨rfl, rfl⟩; rw [hc]))
    go_ret2
    exact ⟨rfl, q1, q2, q3⟩
  refine hr.mono ?_
  rintro e w1 ⟨rfl, q1, q2, q3⟩
  go_wp2_with fail
  go_ret2
  exact ⟨rfl, q1, q2, q3⟩

theorem srcFault_spent (m : Int) (h : SrcAt w p g s f t a) (k : LedAt w g x) (hx : x.reason ≠ 0) :
    Calls Tryz.prog 43 #[.pointer (some ⟨p, 0, none⟩), .int .i64 m] w fun e w' => e = .returned (.agg #[.int .i64 4, .int .i64 m, .int .i64 (a : Int)]) ∧ Below w.heap.size w w' := by
  have c0 := h.l
  have c4 := h.pos
  have hp := Blk.lt h
  have hd := decide_eq_true hx
  have HL := Lib.hid k
  have HX := Lib.hid hd
  clear hx hd k
  go_enter Tryz.func43, Tryz.ntmps43
  go_wp2_with (go_at_call 65; refine (broken_at (Blk.alloc HL.out _) HX.out).mono ?_; rintro e w' ⟨rfl, rfl⟩)
  exact bodyPost_ret (v := .agg #[.int .i64 4, .int .i64 m, .int .i64 (a : Int)]) (by simp [results, Tryz.results43, go_sem]) rfl ⟨rfl, (Below.refl _ _).alloc (Nat.le_refl _) _⟩
theorem srcFault_short (m : Int) (h : SrcAt w p g s f t a) (k : LedAt w g x) (hx : x.reason = 0) :
    Calls Tryz.prog 43 #[.pointer (some ⟨p, 0, none⟩), .int .i64 m] w fun e w' => e = .returned (.agg #[.int .i64 1, .int .i64 m, .int .i64 (t : Int)]) ∧ Below w.heap.size w w' := by
  have c0 := h.l
  have c3 := h.to_
  have hp := Blk.lt h
  have hd := decide_eq_false (p := x.reason ≠ 0) (by simpa using hx)
  have HL := Lib.hid k
  have HX := Lib.hid hd
  clear hx hd k
  go_enter Tryz.func43, Tryz.ntmps43
  go_wp2_with (go_at_call 65; refine (broken_at (Blk.alloc HL.out _) HX.out).mono ?_; rintro e w' ⟨rfl, rfl⟩)
  exact bodyPost_ret (v := .agg #[.int .i64 1, .int .i64 m, .int .i64 (t : Int)]) (by simp [results, Tryz.results43, go_sem]) rfl ⟨rfl, (Below.refl _ _).alloc (Nat.le_refl _) _⟩
end
end Go.Proofs.YthljhebbblhakaaGreatDoor
