/- pnmhead.Read by its stages. -/
import Derived.Test.YthljhebbblhakaaGreatDoorEPnmKind
namespace Go.Proofs.YthljhebbblhakaaGreatDoor
open Go.RowKit
set_option linter.unusedVariables false
set_option linter.unusedSimpArgs false

def hd (k a b m t : Int) : Array Value := #[.int .i64 k, .int .i64 a, .int .i64 b, .int .i64 m, .int .i64 t]
/-- the four boxes of Read: the results, the head, the fault -/
structure Box4 (w : World) (n : Nat) (k a b m t : Int) (fk ff fa : Int) : Prop where
  r : Blk w n 61 (hd 0 0 0 0 0)
  e : FL w (n + 1) 0 0 0
  h : Blk w (n + 2) 61 (hd k a b m t)
  f : FL w (n + 3) fk ff fa
theorem Box4.turn {w w' : World} {n p g : Nat} {k a b m t fk ff fa : Int} (x : Box4 w n k a b m t fk ff fa) (h : Turn [p, g] w w') (hp : p < n) (hg : g < n) : Box4 w' n k a b m t fk ff fa :=
  ⟨x.r.turn h (not_two (by omega) (by omega)), FL.turn x.e h (not_two (by omega) (by omega)), x.h.turn h (not_two (by omega) (by omega)), FL.turn x.f h (not_two (by omega) (by omega))⟩
/-- the stores of a stage: a field of the head, and the fault -/
def stW (w : World) (n i : Nat) (v fk ff fa : Int) : World := (((w.setCell ⟨n + 2, i, none⟩ (.int .i64 v)).setCell ⟨n + 3, 0, none⟩ (.int .i64 fk)).setCell ⟨n + 3, 1, none⟩ (.int .i64 ff)).setCell ⟨n + 3, 2, none⟩ (.int .i64 fa)
theorem Box4.stage {w : World} {n i : Nat} {k a b m t fk ff fa : Int} (x : Box4 w n k a b m t fk ff fa) (v gk gf ga k' a' b' m' t' : Int) (hi : (hd k a b m t).setIfInBounds i (.int .i64 v) = hd k' a' b' m' t') : Box4 (stW w n i v gk gf ga) n k' a' b' m' t' gk gf ga := by
  have e1 : n ≠ n + 2 := by omega
  have e2 : n ≠ n + 3 := by omega
  have e3 : n + 1 ≠ n + 2 := by omega
  have e4 : n + 1 ≠ n + 3 := by omega
  have e5 : n + 2 ≠ n + 3 := by omega
  have e6 : n + 3 ≠ n + 2 := by omega
  exact ⟨(((x.r.far (p := ⟨n + 2, i, none⟩) e1 _).far (p := ⟨n + 3, 0, none⟩) e2 _).far (p := ⟨n + 3, 1, none⟩) e2 _).far (p := ⟨n + 3, 2, none⟩) e2 _,
    (((Blk.far x.e (p := ⟨n + 2, i, none⟩) e3 _).far (p := ⟨n + 3, 0, none⟩) e4 _).far (p := ⟨n + 3, 1, none⟩) e4 _).far (p := ⟨n + 3, 2, none⟩) e4 _,
    ((((x.h.set_ i _).eq_ hi).far (p := ⟨n + 3, 0, none⟩) e5 _).far (p := ⟨n + 3, 1, none⟩) e5 _).far (p := ⟨n + 3, 2, none⟩) e5 _,
    FL.store (Blk.far x.f (p := ⟨n + 2, i, none⟩) e6 _)⟩
theorem SrcAt.stage {w : World} {p g n i : Nat} {s : ByteArray} {f t a : Nat} (h : SrcAt w p g s f t a) (v gk gf ga : Int) (hp : p < n) : SrcAt (stW w n i v gk gf ga) p g s f t a := by
  have e1 : p ≠ n + 2 := by omega
  have e2 : p ≠ n + 3 := by omega
  exact (((Blk.far h (p := ⟨n + 2, i, none⟩) e1 _).far (p := ⟨n + 3, 0, none⟩) e2 _).far (p := ⟨n + 3, 1, none⟩) e2 _).far (p := ⟨n + 3, 2, none⟩) e2 _
theorem LedAt.stage {w : World} {g n i : Nat} {x : Led} (h : LedAt w g x) (v gk gf ga : Int) (hp : g < n) : LedAt (stW w n i v gk gf ga) g x := by
  have e1 : g ≠ n + 2 := by omega
  have e2 : g ≠ n + 3 := by omega
  exact (((Blk.far h (p := ⟨n + 2, i, none⟩) e1 _).far (p := ⟨n + 3, 0, none⟩) e2 _).far (p := ⟨n + 3, 1, none⟩) e2 _).far (p := ⟨n + 3, 2, none⟩) e2 _
theorem Turn.stage {a w : World} {S : List Nat} {n i : Nat} (h : Turn S a w) (v gk gf ga : Int) (hn : a.heap.size ≤ n) : Turn S a (stW w n i v gk gf ga) :=
  (((h.set_ i _ (.inr (by omega))).set_ 0 _ (.inr (by omega))).set_ 1 _ (.inr (by omega))).set_ 2 _ (.inr (by omega))

/-- the fault alone is stored -/
def stF (w : World) (n : Nat) (fk ff fa : Int) : World := ((w.setCell ⟨n + 3, 0, none⟩ (.int .i64 fk)).setCell ⟨n + 3, 1, none⟩ (.int .i64 ff)).setCell ⟨n + 3, 2, none⟩ (.int .i64 fa)
theorem Box4.stageF {w : World} {n : Nat} {k a b m t fk ff fa : Int} (x : Box4 w n k a b m t fk ff fa) (gk gf ga : Int) : Box4 (stF w n gk gf ga) n k a b m t gk gf ga := by
  have e2 : n ≠ n + 3 := by omega
  have e4 : n + 1 ≠ n + 3 := by omega
  have e5 : n + 2 ≠ n + 3 := by omega
  exact ⟨((x.r.far (p := ⟨n + 3, 0, none⟩) e2 _).far (p := ⟨n + 3, 1, none⟩) e2 _).far (p := ⟨n + 3, 2, none⟩) e2 _,
    ((Blk.far x.e (p := ⟨n + 3, 0, none⟩) e4 _).far (p := ⟨n + 3, 1, none⟩) e4 _).far (p := ⟨n + 3, 2, none⟩) e4 _,
    ((x.h.far (p := ⟨n + 3, 0, none⟩) e5 _).far (p := ⟨n + 3, 1, none⟩) e5 _).far (p := ⟨n + 3, 2, none⟩) e5 _, FL.store x.f⟩
theorem SrcAt.stageF {w : World} {p g n : Nat} {s : ByteArray} {f t a : Nat} (h : SrcAt w p g s f t a) (gk gf ga : Int) (hp : p < n) : SrcAt (stF w n gk gf ga) p g s f t a := by
  have e2 : p ≠ n + 3 := by omega
  exact ((Blk.far h (p := ⟨n + 3, 0, none⟩) e2 _).far (p := ⟨n + 3, 1, none⟩) e2 _).far (p := ⟨n + 3, 2, none⟩) e2 _
theorem Turn.stageF {a w : World} {S : List Nat} {n : Nat} (h : Turn S a w) (gk gf ga : Int) (hn : a.heap.size ≤ n) : Turn S a (stF w n gk gf ga) :=
  ((h.set_ 0 _ (.inr (by omega))).set_ 1 _ (.inr (by omega))).set_ 2 _ (.inr (by omega))
theorem Box4.at4 {w : World} {n : Nat} {k a b m t fk ff fa : Int} (x : Box4 w n k a b m t fk ff fa) (t' : Int) : Box4 (w.setCell ⟨n + 2, 4, none⟩ (.int .i64 t')) n k a b m t' fk ff fa := by
  have e1 : n ≠ n + 2 := by omega
  have e3 : n + 1 ≠ n + 2 := by omega
  have e6 : n + 3 ≠ n + 2 := by omega
  exact ⟨x.r.far (p := ⟨n + 2, 4, none⟩) e1 _, Blk.far x.e (p := ⟨n + 2, 4, none⟩) e3 _, (x.h.set_ 4 _).eq_ (by simp [hd]), Blk.far x.f (p := ⟨n + 2, 4, none⟩) e6 _⟩
theorem SrcAt.at4 {w : World} {p g n : Nat} {s : ByteArray} {f t a : Nat} (h : SrcAt w p g s f t a) (t' : Int) (hp : p < n) : SrcAt (w.setCell ⟨n + 2, 4, none⟩ (.int .i64 t')) p g s f t a := Blk.far h (p := ⟨n + 2, 4, none⟩) (show p ≠ n + 2 by omega) _

/-- the stores of the results -/
def fiW (w : World) (n : Nat) (k a b m t fk ff fa : Int) : World := (((((((w.setCell ⟨n, 0, none⟩ (.int .i64 k)).setCell ⟨n, 1, none⟩ (.int .i64 a)).setCell ⟨n, 2, none⟩ (.int .i64 b)).setCell ⟨n, 3, none⟩ (.int .i64 m)).setCell ⟨n, 4, none⟩ (.int .i64 t)).setCell ⟨n + 1, 0, none⟩ (.int .i64 fk)).setCell ⟨n + 1, 1, none⟩ (.int .i64 ff)).setCell ⟨n + 1, 2, none⟩ (.int .i64 fa)
structure Fin2 (w : World) (n : Nat) (k a b m t fk ff fa : Int) : Prop where
  r : Blk w n 61 (hd k a b m t)
  e : FL w (n + 1) fk ff fa
theorem Box4.fin {w : World} {n : Nat} {k a b m t fk ff fa : Int} (x : Box4 w n k a b m t fk ff fa) (k' a' b' m' t' gk gf ga : Int) : Fin2 (fiW w n k' a' b' m' t' gk gf ga) n k' a' b' m' t' gk gf ga := by
  have e1 : n ≠ n + 1 := by omega
  have e2 : n + 1 ≠ n := by omega
  refine ⟨?_, ?_⟩
  · exact ((((((((x.r.set_ 0 _).set_ 1 _).set_ 2 _).set_ 3 _).set_ 4 _).far (p := ⟨n + 1, 0, none⟩) e1 _).far (p := ⟨n + 1, 1, none⟩) e1 _).far (p := ⟨n + 1, 2, none⟩) e1 _).eq_ (by simp [hd])
  · exact FL.store (((((Blk.far x.e (p := ⟨n, 0, none⟩) e2 _).far (p := ⟨n, 1, none⟩) e2 _).far (p := ⟨n, 2, none⟩) e2 _).far (p := ⟨n, 3, none⟩) e2 _).far (p := ⟨n, 4, none⟩) e2 _)
theorem Turn.fin {a w : World} {S : List Nat} {n : Nat} (h : Turn S a w) (k' a' b' m' t' gk gf ga : Int) (hn : a.heap.size ≤ n) : Turn S a (fiW w n k' a' b' m' t' gk gf ga) :=
  (((((((h.set_ 0 _ (.inr hn)).set_ 1 _ (.inr hn)).set_ 2 _ (.inr hn)).set_ 3 _ (.inr hn)).set_ 4 _ (.inr hn)).set_ 0 _ (.inr (by omega))).set_ 1 _ (.inr (by omega))).set_ 2 _ (.inr (by omega))
theorem SrcAt.fin {w : World} {p g n : Nat} {s : ByteArray} {f t a : Nat} (h : SrcAt w p g s f t a) (k' a' b' m' t' gk gf ga : Int) (hp : p < n) : SrcAt (fiW w n k' a' b' m' t' gk gf ga) p g s f t a := by
  have e1 : p ≠ n := by omega
  have e2 : p ≠ n + 1 := by omega
  exact (((((((Blk.far h (p := ⟨n, 0, none⟩) e1 _).far (p := ⟨n, 1, none⟩) e1 _).far (p := ⟨n, 2, none⟩) e1 _).far (p := ⟨n, 3, none⟩) e1 _).far (p := ⟨n, 4, none⟩) e1 _).far (p := ⟨n + 1, 0, none⟩) e2 _).far (p := ⟨n + 1, 1, none⟩) e2 _).far (p := ⟨n + 1, 2, none⟩) e2 _

theorem idxP2 (p q : Value) : (∀ w, (Instr.index 100 (.agg #[p, q]) (.int .i64 0)).run Tryz.prog w = .ok p w) ∧ (∀ w, (Instr.index 100 (.agg #[p, q]) (.int .i64 1)).run Tryz.prog w = .ok q w) :=
  ⟨fun _ => by kernel_rfl, fun _ => by kernel_rfl⟩
theorem pbitmap_any (k : Nat) (w : World) : Calls Tryz.prog 50 #[.int .i64 (k : Int)] w fun e w' => e = .returned (.bool (decide (k = 1 ∨ k = 4))) ∧ w = w' := by
  by_cases h1 : k = 1
  · subst h1
    go_enter Tryz.func50, Tryz.ntmps50
    go_wp2_with fail
    go_ret
    exact ⟨rfl, rfl⟩
  · by_cases h2 : k = 4
    · subst h2
      go_enter Tryz.func50, Tryz.ntmps50
      go_wp2_with fail
      go_ret
      exact ⟨rfl, rfl⟩
    · have n1 : ¬ (k : Int) = 1 := by omega
      have n2 : ¬ (k : Int) = 4 := by omega
      rw [decide_eq_false (by omega)]
      go_enter Tryz.func50, Tryz.ntmps50
      go_wp2_with fail
      go_ret
      exact ⟨ret1 (vbool (by simp; omega)), rfl⟩
theorem ptext_any (k : Nat) (w : World) : Calls Tryz.prog 23 #[.int .i64 (k : Int)] w fun e w' => e = .returned (.bool (decide (1 ≤ k ∧ k ≤ 3))) ∧ w = w' := by
  by_cases h1 : 1 ≤ k
  · have i1 : (1 : Int) ≤ (k : Int) := by omega
    by_cases h2 : k ≤ 3
    · have i2 : (k : Int) ≤ 3 := by omega
      rw [decide_eq_true (And.intro h1 h2)]
      go_enter Tryz.func23, Tryz.ntmps23
      go_wp2_with fail
      go_ret
      exact ⟨ret1 (vbool (by first | (simp; done) | (simp; omega))), rfl⟩
    · have i2 : ¬ (k : Int) ≤ 3 := by omega
      rw [decide_eq_false (by omega)]
      go_enter Tryz.func23, Tryz.ntmps23
      go_wp2_with fail
      go_ret
      exact ⟨ret1 (vbool (by first | (simp; done) | (simp; omega))), rfl⟩
  · have i1 : ¬ (1 : Int) ≤ (k : Int) := by omega
    rw [decide_eq_false (by omega)]
    go_enter Tryz.func23, Tryz.ntmps23
    go_wp2_with fail
    go_ret
    exact ⟨ret1 (vbool (by first | (simp; done) | (simp; omega))), rfl⟩
end Go.Proofs.YthljhebbblhakaaGreatDoor
