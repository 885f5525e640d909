/- A scaler: its table is laid once; the law ScaleTables. -/
import Derived.Test.YthljhebbblhakaaGreatDoorESync
import Derived.Test.YthljhebbblhakaaGreatDoorEPnmBst
import Derived.Test.YthljhebbblhakaaGreatDoorEOpenInts
import Derived.Deep.OwnRows
namespace Go.Proofs.YthljhebbblhakaaGreatDoor
open Go.RowKit
set_option linter.unusedVariables false

def sclN (m : Nat) : Nat := min m 255 + 1
/-- the table, its first q samples laid -/
def sclTab (m q : Nat) : Array Value := ((List.range (sclN m)).map fun j => Value.int .u8 (if j < q then smax (j : Int) (m : Int) else 0)).toArray
def sclCells (m : Nat) (done mu : Int) (t : Value) : Array Value := #[.int .i64 (m : Int), .int .u32 done, .int .i32 mu, .int .u32 0, t]
def SclOpen (w : World) (s m : Nat) : Prop := Blk w s 139 (sclCells m 0 0 (.slice none 0 0))
structure SclDone (w : World) (s m d : Nat) : Prop where
  blk : Blk w s 139 (sclCells m 1 0 (.slice (some ⟨d, 0, none⟩) (sclN m) (sclN m)))
  tab : Blk w d 5 (sclTab m (sclN m))
def Scl (w : World) (s m : Nat) : Prop := SclOpen w s m ∨ ∃ d, SclDone w s m d

theorem sclTab_zero (m : Nat) : madeCells #[.int .u8 0] (sclN m) = sclTab m 0 := by
  apply Array.ext'
  simp only [madeCells, sclTab, Array.toList_map, Array.toList_range]
  apply List.ext_getElem (by simp)
  intro i h1 h2
  simp [Nat.mod_one]
theorem sclTab_at {m q i : Nat} (h : i < sclN m) : (sclTab m q)[i]? = some (.int .u8 (if i < q then smax (i : Int) (m : Int) else 0)) := by
  simp [sclTab, h]
theorem sclTab_next {m q : Nat} (h : q < sclN m) : (sclTab m q).setIfInBounds q (.int .u8 (smax (q : Int) (m : Int))) = sclTab m (q + 1) := by
  apply Array.ext (by simp [sclTab])
  intro i h1 h2
  have hi : i < sclN m := by simpa [sclTab] using h2
  have e1 : (sclTab m (q + 1))[i]? = some (.int .u8 (if i < q + 1 then smax (i : Int) (m : Int) else 0)) := sclTab_at hi
  rw [Array.getElem?_eq_getElem h2] at e1
  have e2 : ((sclTab m q).setIfInBounds q (.int .u8 (smax (q : Int) (m : Int))))[i]? = some (.int .u8 (if i < q + 1 then smax (i : Int) (m : Int) else 0)) := by
    rw [Array.getElem?_setIfInBounds]
    by_cases e : q = i
    · subst e
      have : q < (sclTab m q).size := by simp [sclTab, h]
      rw [if_pos rfl, if_pos this, if_pos (by omega)]
    · rw [if_neg e, sclTab_at hi]
      by_cases hlt : i < q
      · rw [if_pos hlt, if_pos (by omega)]
      · rw [if_neg hlt, if_neg (by omega)]
  rw [Array.getElem?_eq_getElem h1] at e2
  exact Option.some.inj (e2.trans e1.symm)

set_option maxRecDepth 100000 in
set_option maxHeartbeats 1000000 in
theorem sclLay {w : World} {s m : Nat} {cs : Array Value} (h : Blk w s 139 cs) (hs : cs.size = 5) (h0 : cs[0]? = some (.int .i64 (m : Int))) (h1 : 1 ≤ m) (h2 : m ≤ 65535) :
    Calls Tryz.prog 130 #[.pointer (some ⟨s, 0, none⟩)] w fun e w' => e = .returned (.tuple #[]) ∧ ∃ d, Blk w' s 139 (cs.setIfInBounds 4 (.slice (some ⟨d, 0, none⟩) (sclN m) (sclN m))) ∧ Blk w' d 5 (sclTab m (sclN m)) ∧ w.heap.size ≤ d ∧ Turn [s] w w' := by
  have hn1 : 1 ≤ sclN m := by unfold sclN; omega
  have hn2 : sclN m ≤ 256 := by unfold sclN; omega
  have hmk := run_make_row' (P := Tryz.prog) 22 5 (.int .u8 0) 1 Tryz.underlying22 info8 rfl .i64 .i64 (sclN m) (by omega) (by omega)
  have c0 : w.cell? ⟨s, 0, none⟩ = some (.int .i64 (m : Int)) := (h.cell 0).trans h0
  obtain ⟨y4, c4⟩ : ∃ y, w.cell? ⟨s, 4, none⟩ = some y := ⟨_, (h.cell 4).trans (Array.getElem?_eq_getElem (by omega))⟩
  have z4 := h.frozen 4
  have hlt := h.lt
  have hmin : (min (m : Int) 255) + 1 = ((sclN m : Nat) : Int) := by unfold sclN; omega
  have hw : wrap64 (((sclN m : Nat) : Int)) = ((sclN m : Nat) : Int) := by unfold wrap64; omega
  have HB := Lib.hid h
  have HS := Lib.hid hs
  have H0 := Lib.hid h0
  clear h h0 hs
  obtain ⟨z, hz, hzw⟩ : ∃ z : Int, z = ((sclN m : Nat) : Int) ∧ ((m ≤ 255 ∧ z = (m : Int) + 1) ∨ (¬ m ≤ 255 ∧ z = 256)) := ⟨_, rfl, by unfold sclN; omega⟩
  rw [← hz] at hmk
  have HZ := Lib.hid hz
  clear hmin hw hz
  rcases hzw with ⟨hm, rfl⟩ | ⟨hm, rfl⟩
  all_goals
    go_enter Tryz.func130, Tryz.ntmps130
    go_wp2_with fail
    have B1 : Blk ((w.setCell ⟨s, 4, none⟩ (.slice (some ⟨w.heap.size, 0, none⟩) (sclN m) (sclN m))).alloc (.cells (madeCells #[.int .u8 0] (sclN m)) 5)) s 139 (cs.setIfInBounds 4 (.slice (some ⟨w.heap.size, 0, none⟩) (sclN m) (sclN m))) := (Blk.set_ HB.out 4 _).alloc _
    have D1 : Blk ((w.setCell ⟨s, 4, none⟩ (.slice (some ⟨w.heap.size, 0, none⟩) (sclN m) (sclN m))).alloc (.cells (madeCells #[.int .u8 0] (sclN m)) 5)) w.heap.size 5 (sclTab m 0) := (Blk.new_at _ _ _ (by simp [World.setCell])).eq_ (sclTab_zero m)
    have T1 : Turn [s] w ((w.setCell ⟨s, 4, none⟩ (.slice (some ⟨w.heap.size, 0, none⟩) (sclN m) (sclN m))).alloc (.cells (madeCells #[.int .u8 0] (sclN m)) 5)) := ((Turn.refl _ _).set_ 4 _ (by simp)).alloc _
    generalize (w.setCell ⟨s, 4, none⟩ (.slice (some ⟨w.heap.size, 0, none⟩) (sclN m) (sclN m))).alloc (.cells (madeCells #[.int .u8 0] (sclN m)) 5) = ws at B1 D1 T1 ⊢
    have c0' : cs[0]? = some (.int .i64 (m : Int)) := H0.out
    clear hmk c0 c4 z4
    go_loopg [18] (sclN m) (fun k j wr => ∃ q : Nat, q + k = sclN m ∧ j = .int .i64 (q : Int) ∧ Blk wr s 139 (cs.setIfInBounds 4 (.slice (some ⟨w.heap.size, 0, none⟩) (sclN m) (sclN m))) ∧ Blk wr w.heap.size 5 (sclTab m q) ∧ Turn [s] w wr)
    case atStart => exact ⟨0, by omega, rfl, B1, D1, T1⟩
    case round =>
      obtain ⟨q, hq, rfl, B, D, T⟩ := hrel
      have c4 := B.cell 4
      have c0 := B.cell 0
      have z4 := B.frozen 4
      have HS' := HS.out
      rw [Array.getElem?_setIfInBounds_self_of_lt (by omega)] at c4
      rw [Array.getElem?_setIfInBounds_ne (by omega), c0'] at c0
      have hsz := T.size
      have HBB := Lib.hid B
      have HD := Lib.hid D
      have HT := Lib.hid T
      by_cases hlt : q < sclN m
      · have hltI : (q : Int) < ((sclN m : Nat) : Int) := by omega
        have cd := D.cell q
        rw [sclTab_at hlt, if_neg (by omega)] at cd
        have zd := D.frozen q
        clear B D T HS'
        go_wp2_with fail
        go_region_with (go_at_call 131; refine (scaleMax_any _ _ _).mono ?_; rintro e w' ⟨rfl, rfl⟩)
        all_goals go_wp2_with fail
        all_goals
          go_roundg (sclN m - (q + 1))
          case measure => omega
          case rel => exact ⟨q + 1, by omega, by go_num, (HBB.out.far (p := ⟨w.heap.size, q, none⟩) (show s ≠ w.heap.size by omega) _).drew, ((HD.out.set_ q _).eq_ (sclTab_next hlt)).drew, (HT.out.set_ q _ (.inr (Nat.le_refl _))).drew⟩
      · obtain rfl : q = sclN m := by omega
        have hltI : ¬ ((sclN m : Nat) : Int) < ((sclN m : Nat) : Int) := by omega
        clear B D T HS'
        go_wp2_with fail
        go_end0
        exact ⟨rfl, _, HBB.out, HD.out, Nat.le_refl _, HT.out⟩

theorem sclDo {w : World} {s m : Nat} (h : Scl w s m) (h1 : 1 ≤ m) (h2 : m ≤ 65535) :
    Calls Tryz.prog 99 #[.pointer (some ⟨s, 1, none⟩), .func (.func 130) #[.pointer (some ⟨s, 0, none⟩)] #[]] w fun e w' => e = .returned (.tuple #[]) ∧ ∃ d, SclDone w' s m d ∧ (w.heap.size ≤ d ∨ SclDone w s m d) ∧ Turn [s] w w' := by
  rcases h with h | ⟨d, h⟩
  · have hsl := Blk.lt h
    refine (once_first1 s 1 130 (.pointer (some ⟨s, 0, none⟩)) w (fun w' => ∃ d, Blk w' s 139 (((sclCells m 0 0 (.slice none 0 0)).setIfInBounds 2 (.int .i32 1)).setIfInBounds 4 (.slice (some ⟨d, 0, none⟩) (sclN m) (sclN m))) ∧ Blk w' d 5 (sclTab m (sclN m)) ∧ w.heap.size ≤ d ∧ Turn [s] w w')
      (fun w => by kernel_rfl) (Blk.cell h 1) (Blk.cell h 2) (Blk.frozen h 2) ?_ ?_).mono ?_
    · refine (sclLay (m := m) (Blk.set_ h 2 _) (by simp [sclCells]) (by simp [sclCells]) h1 h2).mono ?_
      rintro e w' ⟨rfl, d, q1, q2, q3, q4⟩
      exact ⟨rfl, d, q1, q2, by simpa [World.setCell] using q3, ((Turn.refl _ _).set_ 2 _ (by simp)).trans q4⟩
    · rintro w' ⟨d, q1, q2, q3, q4⟩
      exact ⟨⟨_, q1.cell 1⟩, q1.frozen 1, q1.cell 2, q1.frozen 2⟩
    rintro e w' ⟨rfl, w2, ⟨d, q1, q2, q3, q4⟩, rfl⟩
    have hds : d ≠ s := by omega
    exact ⟨rfl, d, ⟨((q1.drew.set_ 1 _).set_ 2 _).eq_ (by simp [sclCells]), (Blk.far q2.drew (p := ⟨s, 1, none⟩) hds _).far (p := ⟨s, 1 + 1, none⟩) hds _⟩, .inl q3, (q4.drew.set_ 1 _ (by simp)).set_ 2 _ (by simp)⟩
  · refine (once_done _ _ _ (Blk.cell h.blk 1)).mono ?_
    rintro e w' ⟨rfl, rfl⟩
    exact ⟨rfl, d, h, .inr h, Turn.refl _ _⟩

set_option maxRecDepth 100000 in
theorem sclOfD {w : World} {s m : Nat} (v : Int) (h : Scl w s m) (h1 : 1 ≤ m) (h2 : m ≤ 65535) :
    Calls Tryz.prog 107 #[.pointer (some ⟨s, 0, none⟩), .int .i64 v] w fun e w' => e = .returned (.tuple #[.int .u8 (smax v (m : Int)), .bool (smay v (m : Int))]) ∧ (∃ d, SclDone w' s m d ∧ (w.heap.size ≤ d ∨ SclDone w s m d)) ∧ Turn [s] w w' := by
  have hmf : ∀ (fn : Fn) (first cap : Array Value) (w : World), (Instr.makeFunc fn first cap).run Tryz.prog w = .ok (.func fn first cap) w := fun _ _ _ _ => rfl
  have HD := Lib.hid (sclDo h h1 h2)
  clear h
  by_cases hv : 0 ≤ v ∧ v < ((sclN m : Nat) : Int)
  · obtain ⟨v0, v1⟩ := hv
    obtain ⟨q, rfl⟩ : ∃ q : Nat, v = q := ⟨v.toNat, by omega⟩
    have hq : q < sclN m := by omega
    have hmay : smay (q : Int) (m : Int) = true := smay_iff.2 ⟨by omega, by omega, by omega, by unfold sclN at hq; omega⟩
    rw [hmay]
    have HM := Lib.hid hmay
    clear hmay
    go_enter Tryz.func107, Tryz.ntmps107
    go_wp2_with (go_at_call 99; refine HD.out.mono ?_; rintro e w1 ⟨rfl, d, k, kd, t⟩; have c4 : w1.cell? ⟨s, 4, none⟩ = some (.slice (some ⟨d, 0, none⟩) (sclN m) (sclN m)) := Blk.cell k.blk 4; have cq := (Blk.cell k.tab q).trans (sclTab_at hq); rw [if_pos hq] at cq)
    go_ret2
    exact ⟨rfl, ⟨d, k, kd⟩, t⟩
  · by_cases v0 : 0 ≤ v
    · have v1 : ¬ v < ((sclN m : Nat) : Int) := fun h => hv ⟨v0, h⟩
      clear hv
      go_enter Tryz.func107, Tryz.ntmps107
      go_wp2_with (first
        | (go_at_call 99; refine HD.out.mono ?_; rintro e w1 ⟨rfl, d, k, kd, t⟩; have c4 : w1.cell? ⟨s, 4, none⟩ = some (.slice (some ⟨d, 0, none⟩) (sclN m) (sclN m)) := Blk.cell k.blk 4; have c0 : w1.cell? ⟨s, 0, none⟩ = some (.int .i64 (m : Int)) := Blk.cell k.blk 0)
        | (go_at_call 131; refine (scaleMax_any _ _ _).mono ?_; rintro e w' ⟨rfl, rfl⟩))
      go_ret2
      exact ⟨rfl, ⟨d, k, kd⟩, t⟩
    · clear hv
      go_enter Tryz.func107, Tryz.ntmps107
      go_wp2_with (first
        | (go_at_call 99; refine HD.out.mono ?_; rintro e w1 ⟨rfl, d, k, kd, t⟩; have c4 : w1.cell? ⟨s, 4, none⟩ = some (.slice (some ⟨d, 0, none⟩) (sclN m) (sclN m)) := Blk.cell k.blk 4; have c0 : w1.cell? ⟨s, 0, none⟩ = some (.int .i64 (m : Int)) := Blk.cell k.blk 0)
        | (go_at_call 131; refine (scaleMax_any _ _ _).mono ?_; rintro e w' ⟨rfl, rfl⟩))
      go_ret2
      exact ⟨rfl, ⟨d, k, kd⟩, t⟩

/-- a scaler whose table is none of these blocks -/
def SclA (w : World) (s m : Nat) (av : List Nat) : Prop := SclOpen w s m ∨ ∃ d, d ∉ av ∧ SclDone w s m d
theorem SclA.scl {w : World} {s m : Nat} {av : List Nat} (h : SclA w s m av) : Scl w s m := h.elim .inl fun ⟨d, _, k⟩ => .inr ⟨d, k⟩
theorem SclA.drew {w : World} {s m : Nat} {av : List Nat} (h : SclA w s m av) : SclA w.drew s m av := h.elim .inl fun ⟨d, n, k⟩ => .inr ⟨d, n, k.blk.drew, k.tab.drew⟩
theorem SclA.lt {w : World} {s m : Nat} {av : List Nat} (h : SclA w s m av) : s < w.heap.size := h.elim Blk.lt fun ⟨d, n, k⟩ => Blk.lt k.blk
theorem SclA.turn {w w' : World} {s m : Nat} {av S : List Nat} (h : SclA w s m av) (k : Turn S w w') (hs : s ∉ S) (hS : ∀ i ∈ S, i ∈ av ∨ ∃ t cs, Blk w i t cs ∧ t ≠ 5) : SclA w' s m av :=
  h.elim (fun a => .inl (Blk.turn a k hs)) fun ⟨d, n, e⟩ => .inr ⟨d, n, Blk.turn e.blk k hs, Blk.turn e.tab k fun hm => (hS d hm).elim n fun ⟨t, cs, hb, ht⟩ => Blk.ne_ hb e.tab ht rfl⟩
theorem SclA.alloc {w : World} {s m : Nat} {av : List Nat} (h : SclA w s m av) (o : Obj) : SclA (w.alloc o) s m av := h.turn (S := []) ((Turn.refl _ _).alloc o) (by simp) (by simp)
theorem sclOfA {w : World} {s m : Nat} {av : List Nat} (v : Int) (h : SclA w s m av) (hav : ∀ i ∈ av, i < w.heap.size) (h1 : 1 ≤ m) (h2 : m ≤ 65535) :
    Calls Tryz.prog 107 #[.pointer (some ⟨s, 0, none⟩), .int .i64 v] w fun e w' => e = .returned (.tuple #[.int .u8 (smax v (m : Int)), .bool (smay v (m : Int))]) ∧ SclA w' s m av ∧ Turn [s] w w' := by
  have h0 := h
  refine (sclOfD v h.scl h1 h2).mono ?_
  rintro e w' ⟨rfl, ⟨d, k, kd⟩, t⟩
  refine ⟨rfl, .inr ⟨d, fun hm => ?_, k⟩, t⟩
  rcases kd with kd | kd
  · have := hav d hm; omega
  · rcases h0 with h0 | ⟨d', hd', k'⟩
    · have e1 := Blk.cell kd.blk 1
      rw [Blk.cell h0 1] at e1
      cases e1
    · have e1 := Blk.cell kd.blk 4
      rw [Blk.cell k'.blk 4] at e1
      simp only [sclCells, List.getElem?_toArray, List.getElem?_cons_succ, List.getElem?_cons_zero, Option.some.injEq, Value.slice.injEq, Addr.mk.injEq] at e1
      exact hd' (e1.1.1 ▸ hm)

theorem sclNew_open (m : Nat) (w : World) (h1 : 1 ≤ m) (h2 : m ≤ 65535) :
    Calls Tryz.prog 56 #[.int .i64 (m : Int)] w fun e w' => ∃ s, e = .returned (.tuple #[.pointer (some ⟨s, 0, none⟩), .int .i64 0]) ∧ w.heap.size ≤ s ∧ SclOpen w' s m ∧ Below w.heap.size w w' := by
  have i1 : ¬ (m : Int) < 1 := by omega
  have i2 : ¬ (65535 : Int) < (m : Int) := by omega
  go_enter Tryz.func56, Tryz.ntmps56
  go_wp2_with fail
  go_ret2
  exact ⟨_, rfl, Nat.le_refl _, (Blk.new _ _ _).eq_ rfl, (Below.refl _ _).alloc (Nat.le_refl _) _⟩
end Go.Proofs.YthljhebbblhakaaGreatDoor
