/- The document's qoi: Place, add, Step. -/
import Derived.Test.YtojobfnbakiicaaGreatQoiP
import Derived.Deep.RegionHeld3
import Derived.BigRegion
namespace Go.Proofs.YtojobfnbakiicaaGreat
open Go.RowKit
set_option linter.unusedVariables false
set_option linter.unusedSimpArgs false

theorem refPlace26 {c : Qc} {p : Nat} (hp : qplace c = p) (w : World) : Calls Tryz.prog 67 #[.agg #[.int .u8 (c.r.toNat : Int), .int .u8 (c.g.toNat : Int), .int .u8 (c.b.toNat : Int), .int .u8 (c.a.toNat : Int)]] w fun e w' => e = .returned (.int .i64 (p : Int)) ∧ Below w.heap.size w w' := by
  have h1 : (c.r.toNat : Int) < 256 := by have := UInt8.toNat_lt c.r; omega
  have h2 : (c.g.toNat : Int) < 256 := by have := UInt8.toNat_lt c.g; omega
  have h3 : (c.b.toNat : Int) < 256 := by have := UInt8.toNat_lt c.b; omega
  have h4 : (c.a.toNat : Int) < 256 := by have := UInt8.toNat_lt c.a; omega
  have e1 : (3 * (c.r.toNat : Int) + 5 * (c.g.toNat : Int) + 7 * (c.b.toNat : Int) + 11 * (c.a.toNat : Int)) % 64 = (p : Int) := by rw [← hp]; unfold qplace; omega
  have e2 : Int.tmod (3 * (c.r.toNat : Int) + 5 * (c.g.toNat : Int) + 7 * (c.b.toNat : Int) + 11 * (c.a.toNat : Int)) 64 = (p : Int) := by rw [Int.tmod_eq_emod_of_nonneg (by omega)]; exact e1
  clear hp
  go_enter Tryz.func67, Tryz.ntmps67
  go_wp2_with fail
  go_ret
  exact ⟨rfl, (Below.refl _ _).alloc (Nat.le_refl _) _⟩
theorem refAdd26 (v : UInt8) {d : Int} (hd : -300 ≤ d ∧ d ≤ 300) (w : World) : Calls Tryz.prog 123 #[.int .u8 (v.toNat : Int), .int .i64 d] w fun e w' => e = .returned (.int .u8 ((qadd v d).toNat : Int)) ∧ w = w' := by
  have h1 : (v.toNat : Int) < 256 := by have := UInt8.toNat_lt v; omega
  have e1 : ((v.toNat : Int) + d + 512) % 256 = ((qadd v d).toNat : Int) := by rw [qadd_int]; omega
  have e2 : Int.tmod ((v.toNat : Int) + d + 512) 256 = ((qadd v d).toNat : Int) := by rw [Int.tmod_eq_emod_of_nonneg (by omega)]; exact e1
  have e3 : ((qadd v d).toNat : Int) < 256 := by have := UInt8.toNat_lt (qadd v d); omega
  generalize (qadd v d) = z at e1 e2 e3 ⊢
  go_enter Tryz.func123, Tryz.ntmps123
  go_wp2_with fail
  go_ret
  exact ⟨rfl, rfl⟩
/-- what a step tells -/
def RStepPost (s : ByteArray) (a : Nat) (last : Qc) (seen : List Qc) (w w' : World) (e : Ending) : Prop :=
  Below w.heap.size w w' ∧ ((a + 1 + qneed (bat s a) ≤ s.size ∧ e = .returned (.tuple #[(qstep s a last seen).1.v, .int .i64 ((qstep s a last seen).2 : Int), .int .i64 ((1 + qneed (bat s a) : Nat) : Int), .bool true])) ∨ (¬ a + 1 + qneed (bat s a) ≤ s.size ∧ e = .returned (.tuple #[qnone.v, .int .i64 0, .int .i64 0, .bool false])))
set_option maxRecDepth 100000 in
set_option maxHeartbeats 4000000 in
theorem refStep_run {w : World} {s : ByteArray} {a gs cs : Nat} {last : Qc} {seen : List Qc} (ha : a < s.size) (hsm : s.size ≤ 1099511627776) (hS : QAt w gs 0 seen) (h64 : seen.length = 64) (hcs : 64 ≤ cs) (hb1 : 192 ≤ bat s a) (hb2 : bat s a < 254) : Calls Tryz.prog 66 #[.string s, .int .i64 (a : Int), last.v, .slice (some ⟨gs, 0, none⟩) 64 cs] w fun e w' => RStepPost s a last seen w w' e := by
  have hnd : qneed (bat s a) = 0 := by unfold qneed; rw [if_neg (by omega), if_neg (by omega), if_neg (by omega)]
  have hst : qstep s a last seen = (last, bat s a % 64 + 1) := by unfold qstep; rw [if_neg (by omega), if_neg (by omega), if_neg (by omega), if_neg (by omega), if_neg (by omega)]
  unfold RStepPost
  rw [hnd, hst]
  simp only
  have hB := bat_lt s a
  have hsa : s[a].toNat = bat s a := (bat_eq ha).symm
  have haI : (a : Int) < (s.size : Int) := by omega
  have hszI : (s.size : Int) ≤ 1099511627776 := by omega
  have hr : ((bat s a % 64 + 1 : Nat) : Int) = (bat s a : Int) - 192 + 1 := by omega
  rw [hr]
  clear hnd hst hr
  generalize bat s a = B at *
  have b1 : ¬ (B : Int) = 254 := by omega
  have b2 : ¬ (B : Int) = 255 := by omega
  have b3 : (128 : Int) ≤ (B : Int) := by omega
  have b4 : ¬ (B : Int) < 192 := by omega
  have b5 : ¬ (s.size : Int) < (a : Int) + 1 := by omega
  have b6 : ¬ (B : Int) < 64 := by omega
  have b7 : ¬ (B : Int) < 128 := by omega
  have b8 : ¬ (4 : Int) ≤ 1 := by decide
  have L0 : QB ((w.alloc (.cells #[.int .u8 (last.r.toNat : Int), .int .u8 (last.g.toNat : Int), .int .u8 (last.b.toNat : Int), .int .u8 (last.a.toNat : Int)] 67)).alloc (.cells #[.int .u8 0, .int .u8 0, .int .u8 0, .int .u8 0] 67)) w.heap.size last := Blk.alloc (Blk.new _ _ _) _
  obtain ⟨l0, l1, l2, l3, ll⟩ := QB.all L0
  unfold Qc.v
  go_enter Tryz.func66, Tryz.ntmps66
  go_wp2_with fail
  exact bodyPost_ret (v := .tuple #[(last : Qc).v, .int .i64 ((B : Int) - 192 + 1), .int .i64 1, .bool true]) (by simp [results, Tryz.results66, go_sem, Qc.v, b8_int]) rfl ⟨(((Below.refl _ _).alloc (Nat.le_refl _) _).alloc (by simp) _).alloc (by simp; omega) _, .inl ⟨by omega, rfl⟩⟩
set_option maxRecDepth 100000 in
set_option maxHeartbeats 4000000 in
theorem refStep_rgb {w : World} {s : ByteArray} {a gs cs : Nat} {last : Qc} {seen : List Qc} (ha : a < s.size) (hsm : s.size ≤ 1099511627776) (hS : QAt w gs 0 seen) (h64 : seen.length = 64) (hcs : 64 ≤ cs) (hb : bat s a = 254) : Calls Tryz.prog 66 #[.string s, .int .i64 (a : Int), last.v, .slice (some ⟨gs, 0, none⟩) 64 cs] w fun e w' => RStepPost s a last seen w w' e := by
  have hnd : qneed (bat s a) = 3 := by unfold qneed; rw [if_pos hb]
  have hst : qstep s a last seen = (⟨b8 s (a + 1), b8 s (a + 2), b8 s (a + 3), last.a⟩, 1) := by unfold qstep; rw [if_pos hb]
  unfold RStepPost
  rw [hnd, hst]
  simp only
  have hB := bat_lt s a
  have hsa : s[a].toNat = bat s a := (bat_eq ha).symm
  have haI : (a : Int) < (s.size : Int) := by omega
  have hszI : (s.size : Int) ≤ 1099511627776 := by omega
  rw [hb] at hsa
  clear hnd hst
  have L0 : QB ((w.alloc (.cells #[.int .u8 (last.r.toNat : Int), .int .u8 (last.g.toNat : Int), .int .u8 (last.b.toNat : Int), .int .u8 (last.a.toNat : Int)] 67)).alloc (.cells #[.int .u8 0, .int .u8 0, .int .u8 0, .int .u8 0] 67)) w.heap.size last := Blk.alloc (Blk.new _ _ _) _
  obtain ⟨l0, l1, l2, l3, ll⟩ := QB.all L0
  have hwk := IntWalk.i64_in ((a : Int) + 4) (by omega)
  by_cases hfit : a + 1 + 3 ≤ s.size
  · have b5 : ¬ (s.size : Int) < (a : Int) + 4 := by omega
    have n1 : a + 1 < s.size := by omega
    have i1 : (a : Int) + 1 < (s.size : Int) := by omega
    have j1 : 0 ≤ (a : Int) + 1 := by omega
    have t1 : ((a : Int) + 1).toNat = a + 1 := by omega
    have g1 : s[a + 1].toNat = bat s (a + 1) := (bat_eq n1).symm
    have hw1 := IntWalk.i64_in ((a : Int) + 1) (by omega)
    have n2 : a + 2 < s.size := by omega
    have i2 : (a : Int) + 2 < (s.size : Int) := by omega
    have j2 : 0 ≤ (a : Int) + 2 := by omega
    have t2 : ((a : Int) + 2).toNat = a + 2 := by omega
    have g2 : s[a + 2].toNat = bat s (a + 2) := (bat_eq n2).symm
    have hw2 := IntWalk.i64_in ((a : Int) + 2) (by omega)
    have n3 : a + 3 < s.size := by omega
    have i3 : (a : Int) + 3 < (s.size : Int) := by omega
    have j3 : 0 ≤ (a : Int) + 3 := by omega
    have t3 : ((a : Int) + 3).toNat = a + 3 := by omega
    have g3 : s[a + 3].toNat = bat s (a + 3) := (bat_eq n3).symm
    have hw3 := IntWalk.i64_in ((a : Int) + 3) (by omega)
    unfold Qc.v
    go_enter Tryz.func66, Tryz.ntmps66
    go_wp2_with fail
    refine wp_region_held_drew (S := (fun _ => True)) (by kernel_rfl) trivial (fun hHeld => ?_)
    refine wpAnyH_take (i := 0) (v := ?_) rfl (by kernel_rfl) (by kernel_rfl) (by kernel_rfl) (fun _ _ _ h => h) (Or.inl ⟨by kernel_rfl, ?_⟩) (by assumption) ?_
    rotate_left
    · intro w hSw; (try dsimp only at hSw); go_simp; (try with_reducible rfl)
    (try simp only [Act.put, List.setIfInBounds_toArray, List.set_cons_zero, List.set_cons_succ])
    refine wpAnyH_take (i := 1) (v := ?_) rfl (by kernel_rfl) (by kernel_rfl) (by kernel_rfl) (fun _ _ _ h => h) (Or.inl ⟨by kernel_rfl, ?_⟩) (by assumption) ?_
    rotate_left
    · intro w hSw; (try dsimp only at hSw); go_simp; (try with_reducible rfl)
    (try simp only [Act.put, List.setIfInBounds_toArray, List.set_cons_zero, List.set_cons_succ])
    refine wpAnyH_take (i := 2) (v := ?_) rfl (by kernel_rfl) (by kernel_rfl) (by kernel_rfl) (fun _ _ _ h => h) (Or.inl ⟨by kernel_rfl, ?_⟩) (by assumption) ?_
    rotate_left
    · intro w hSw; (try dsimp only at hSw); go_simp; (try with_reducible rfl)
    (try simp only [Act.put, List.setIfInBounds_toArray, List.set_cons_zero, List.set_cons_succ])
    refine wpAnyH_take (i := 3) (v := ?_) rfl (by kernel_rfl) (by kernel_rfl) (by kernel_rfl) (fun _ _ _ h => h) (Or.inl ⟨by kernel_rfl, ?_⟩) (by assumption) ?_
    rotate_left
    · intro w hSw; (try dsimp only at hSw); go_simp; (try with_reducible rfl)
    (try simp only [Act.put, List.setIfInBounds_toArray, List.set_cons_zero, List.set_cons_succ])
    refine wpAnyH_take (i := 4) (v := ?_) rfl (by kernel_rfl) (by kernel_rfl) (by kernel_rfl) (fun _ _ _ h => h) (Or.inl ⟨by kernel_rfl, ?_⟩) (by assumption) ?_
    rotate_left
    · intro w hSw; (try dsimp only at hSw); go_simp; (try with_reducible rfl)
    (try simp only [Act.put, List.setIfInBounds_toArray, List.set_cons_zero, List.set_cons_succ])
    refine wpAnyH_take (i := 5) (v := ?_) rfl (by kernel_rfl) (by kernel_rfl) (by kernel_rfl) (fun _ _ _ h => h) (Or.inl ⟨by kernel_rfl, ?_⟩) (by assumption) ?_
    rotate_left
    · intro w hSw; (try dsimp only at hSw); go_simp; (try with_reducible rfl)
    (try simp only [Act.put, List.setIfInBounds_toArray, List.set_cons_zero, List.set_cons_succ])
    refine wpAnyH_take (i := 6) (v := ?_) rfl (by kernel_rfl) (by kernel_rfl) (by kernel_rfl) (fun _ _ _ h => h) (Or.inl ⟨by kernel_rfl, ?_⟩) (by assumption) ?_
    rotate_left
    · intro w hSw; (try dsimp only at hSw); go_simp; (try with_reducible rfl)
    (try simp only [Act.put, List.setIfInBounds_toArray, List.set_cons_zero, List.set_cons_succ])
    refine wpAnyH_take (i := 7) (v := ?_) rfl (by kernel_rfl) (by kernel_rfl) (by kernel_rfl) (fun _ _ _ h => h) (Or.inl ⟨by kernel_rfl, ?_⟩) (by assumption) ?_
    rotate_left
    · intro w hSw; (try dsimp only at hSw); go_simp; (try with_reducible rfl)
    (try simp only [Act.put, List.setIfInBounds_toArray, List.set_cons_zero, List.set_cons_succ])
    refine wpAnyH_take (i := 8) (v := ?_) rfl (by kernel_rfl) (by kernel_rfl) (by kernel_rfl) (fun _ _ _ h => h) (Or.inl ⟨by kernel_rfl, ?_⟩) (by assumption) ?_
    rotate_left
    · intro w hSw; (try dsimp only at hSw); go_simp; (try with_reducible rfl)
    (try simp only [Act.put, List.setIfInBounds_toArray, List.set_cons_zero, List.set_cons_succ])
    refine wpAnyH_take (i := 9) (v := ?_) rfl (by kernel_rfl) (by kernel_rfl) (by kernel_rfl) (fun _ _ _ h => h) (Or.inl ⟨by kernel_rfl, ?_⟩) (by assumption) ?_
    rotate_left
    · intro w hSw; (try dsimp only at hSw); go_simp; (try with_reducible rfl)
    (try simp only [Act.put, List.setIfInBounds_toArray, List.set_cons_zero, List.set_cons_succ])
    refine wpAnyH_take (i := 10) (v := ?_) rfl (by kernel_rfl) (by kernel_rfl) (by kernel_rfl) (fun _ _ _ h => h) (Or.inl ⟨by kernel_rfl, ?_⟩) (by assumption) ?_
    rotate_left
    · intro w hSw; (try dsimp only at hSw); go_simp; (try with_reducible rfl)
    (try simp only [Act.put, List.setIfInBounds_toArray, List.set_cons_zero, List.set_cons_succ])
    refine wpAnyH_take (i := 11) (v := ?_) rfl (by kernel_rfl) (by kernel_rfl) (by kernel_rfl) (fun _ _ _ h => h) (Or.inl ⟨by kernel_rfl, ?_⟩) (by assumption) ?_
    rotate_left
    · intro w hSw; (try dsimp only at hSw); go_simp; (try with_reducible rfl)
    (try simp only [Act.put, List.setIfInBounds_toArray, List.set_cons_zero, List.set_cons_succ])
    refine wpAnyH_take (i := 12) (v := ?_) rfl (by kernel_rfl) (by kernel_rfl) (by kernel_rfl) (fun _ _ _ h => h) (Or.inl ⟨by kernel_rfl, ?_⟩) (by assumption) ?_
    rotate_left
    · intro w hSw; (try dsimp only at hSw); go_simp; (try with_reducible rfl)
    (try simp only [Act.put, List.setIfInBounds_toArray, List.set_cons_zero, List.set_cons_succ])
    refine wpAnyH_ready (rs := [13]) (by kernel_rfl) (by simp) ?_
    refine AllReadyH.cons rfl (fun K hK => ?_) AllReadyH.nil
    go_simp
    refine hK.out _ _ trivial (fun hHeld' => ?_)
    clear hK K hHeld
    have hHeld := hHeld'
    clear hHeld'
    (try simp only [Act.put, List.setIfInBounds_toArray, List.set_cons_zero, List.set_cons_succ])
    refine wpAnyH_take (i := 14) (v := ?_) rfl (by kernel_rfl) (by kernel_rfl) (by kernel_rfl) (fun _ _ _ h => h) (Or.inl ⟨by kernel_rfl, ?_⟩) (by assumption) ?_
    rotate_left
    · intro w hSw; (try dsimp only at hSw); go_simp; (try with_reducible rfl)
    (try simp only [Act.put, List.setIfInBounds_toArray, List.set_cons_zero, List.set_cons_succ])
    refine wpAnyH_ready (rs := [15]) (by kernel_rfl) (by simp) ?_
    refine AllReadyH.cons rfl (fun K hK => ?_) AllReadyH.nil
    go_simp
    refine hK.out _ _ trivial (fun hHeld' => ?_)
    clear hK K hHeld
    have hHeld := hHeld'
    clear hHeld'
    (try simp only [Act.put, List.setIfInBounds_toArray, List.set_cons_zero, List.set_cons_succ])
    refine wpAnyH_take (i := 16) (v := ?_) rfl (by kernel_rfl) (by kernel_rfl) (by kernel_rfl) (fun _ _ _ h => h) (Or.inl ⟨by kernel_rfl, ?_⟩) (by assumption) ?_
    rotate_left
    · intro w hSw; (try dsimp only at hSw); go_simp; (try with_reducible rfl)
    (try simp only [Act.put, List.setIfInBounds_toArray, List.set_cons_zero, List.set_cons_succ])
    refine wpAnyH_ready (rs := [17]) (by kernel_rfl) (by simp) ?_
    refine AllReadyH.cons rfl (fun K hK => ?_) AllReadyH.nil
    go_simp
    refine hK.out _ _ trivial (fun hHeld' => ?_)
    clear hK K hHeld
    have hHeld := hHeld'
    clear hHeld'
    (try simp only [Act.put, List.setIfInBounds_toArray, List.set_cons_zero, List.set_cons_succ])
    refine wpAnyH_done (by kernel_rfl) ?_ _
    go_wp2_with fail
    exact bodyPost_ret (v := .tuple #[(⟨b8 s (a + 1), b8 s (a + 2), b8 s (a + 3), last.a⟩ : Qc).v, .int .i64 (1), .int .i64 4, .bool true]) (by simp [results, Tryz.results66, go_sem, Qc.v, b8_int]) rfl ⟨(((((Below.refl _ _).alloc (Nat.le_refl _) _).alloc (by simp) _).alloc (by simp; omega) _)).drew, .inl ⟨by omega, rfl⟩⟩
  · have b5 : (s.size : Int) < (a : Int) + 4 := by omega
    unfold Qc.v
    go_enter Tryz.func66, Tryz.ntmps66
    go_wp2_with fail
    exact bodyPost_ret (v := .tuple #[qnone.v, .int .i64 0, .int .i64 0, .bool false]) (by simp [results, Tryz.results66, go_sem, Qc.v, qnone]) rfl ⟨((Below.refl _ _).alloc (Nat.le_refl _) _).alloc (by simp) _, .inr ⟨by omega, rfl⟩⟩
set_option maxRecDepth 100000 in
set_option maxHeartbeats 4000000 in
theorem refStep_rgba {w : World} {s : ByteArray} {a gs cs : Nat} {last : Qc} {seen : List Qc} (ha : a < s.size) (hsm : s.size ≤ 1099511627776) (hS : QAt w gs 0 seen) (h64 : seen.length = 64) (hcs : 64 ≤ cs) (hb : bat s a = 255) : Calls Tryz.prog 66 #[.string s, .int .i64 (a : Int), last.v, .slice (some ⟨gs, 0, none⟩) 64 cs] w fun e w' => RStepPost s a last seen w w' e := by
  have hnd : qneed (bat s a) = 4 := by unfold qneed; rw [if_neg (by omega), if_pos hb]
  have hst : qstep s a last seen = (⟨b8 s (a + 1), b8 s (a + 2), b8 s (a + 3), b8 s (a + 4)⟩, 1) := by unfold qstep; rw [if_neg (by omega), if_pos hb]
  unfold RStepPost
  rw [hnd, hst]
  simp only
  have hB := bat_lt s a
  have hsa : s[a].toNat = bat s a := (bat_eq ha).symm
  have haI : (a : Int) < (s.size : Int) := by omega
  have hszI : (s.size : Int) ≤ 1099511627776 := by omega
  rw [hb] at hsa
  clear hnd hst
  have L0 : QB ((w.alloc (.cells #[.int .u8 (last.r.toNat : Int), .int .u8 (last.g.toNat : Int), .int .u8 (last.b.toNat : Int), .int .u8 (last.a.toNat : Int)] 67)).alloc (.cells #[.int .u8 0, .int .u8 0, .int .u8 0, .int .u8 0] 67)) w.heap.size last := Blk.alloc (Blk.new _ _ _) _
  obtain ⟨l0, l1, l2, l3, ll⟩ := QB.all L0
  have hwk := IntWalk.i64_in ((a : Int) + 5) (by omega)
  by_cases hfit : a + 1 + 4 ≤ s.size
  · have b5 : ¬ (s.size : Int) < (a : Int) + 5 := by omega
    have n1 : a + 1 < s.size := by omega
    have i1 : (a : Int) + 1 < (s.size : Int) := by omega
    have j1 : 0 ≤ (a : Int) + 1 := by omega
    have t1 : ((a : Int) + 1).toNat = a + 1 := by omega
    have g1 : s[a + 1].toNat = bat s (a + 1) := (bat_eq n1).symm
    have hw1 := IntWalk.i64_in ((a : Int) + 1) (by omega)
    have n2 : a + 2 < s.size := by omega
    have i2 : (a : Int) + 2 < (s.size : Int) := by omega
    have j2 : 0 ≤ (a : Int) + 2 := by omega
    have t2 : ((a : Int) + 2).toNat = a + 2 := by omega
    have g2 : s[a + 2].toNat = bat s (a + 2) := (bat_eq n2).symm
    have hw2 := IntWalk.i64_in ((a : Int) + 2) (by omega)
    have n3 : a + 3 < s.size := by omega
    have i3 : (a : Int) + 3 < (s.size : Int) := by omega
    have j3 : 0 ≤ (a : Int) + 3 := by omega
    have t3 : ((a : Int) + 3).toNat = a + 3 := by omega
    have g3 : s[a + 3].toNat = bat s (a + 3) := (bat_eq n3).symm
    have hw3 := IntWalk.i64_in ((a : Int) + 3) (by omega)
    have n4 : a + 4 < s.size := by omega
    have i4 : (a : Int) + 4 < (s.size : Int) := by omega
    have j4 : 0 ≤ (a : Int) + 4 := by omega
    have t4 : ((a : Int) + 4).toNat = a + 4 := by omega
    have g4 : s[a + 4].toNat = bat s (a + 4) := (bat_eq n4).symm
    have hw4 := IntWalk.i64_in ((a : Int) + 4) (by omega)
    unfold Qc.v
    go_enter Tryz.func66, Tryz.ntmps66
    go_wp2_with fail
    refine wp_region_held_drew (S := (fun _ => True)) (by kernel_rfl) trivial (fun hHeld => ?_)
    refine wpAnyH_take (i := 0) (v := ?_) rfl (by kernel_rfl) (by kernel_rfl) (by kernel_rfl) (fun _ _ _ h => h) (Or.inl ⟨by kernel_rfl, ?_⟩) (by assumption) ?_
    rotate_left
    · intro w hSw; (try dsimp only at hSw); go_simp; (try with_reducible rfl)
    (try simp only [Act.put, List.setIfInBounds_toArray, List.set_cons_zero, List.set_cons_succ])
    refine wpAnyH_take (i := 1) (v := ?_) rfl (by kernel_rfl) (by kernel_rfl) (by kernel_rfl) (fun _ _ _ h => h) (Or.inl ⟨by kernel_rfl, ?_⟩) (by assumption) ?_
    rotate_left
    · intro w hSw; (try dsimp only at hSw); go_simp; (try with_reducible rfl)
    (try simp only [Act.put, List.setIfInBounds_toArray, List.set_cons_zero, List.set_cons_succ])
    refine wpAnyH_take (i := 2) (v := ?_) rfl (by kernel_rfl) (by kernel_rfl) (by kernel_rfl) (fun _ _ _ h => h) (Or.inl ⟨by kernel_rfl, ?_⟩) (by assumption) ?_
    rotate_left
    · intro w hSw; (try dsimp only at hSw); go_simp; (try with_reducible rfl)
    (try simp only [Act.put, List.setIfInBounds_toArray, List.set_cons_zero, List.set_cons_succ])
    refine wpAnyH_take (i := 3) (v := ?_) rfl (by kernel_rfl) (by kernel_rfl) (by kernel_rfl) (fun _ _ _ h => h) (Or.inl ⟨by kernel_rfl, ?_⟩) (by assumption) ?_
    rotate_left
    · intro w hSw; (try dsimp only at hSw); go_simp; (try with_reducible rfl)
    (try simp only [Act.put, List.setIfInBounds_toArray, List.set_cons_zero, List.set_cons_succ])
    refine wpAnyH_take (i := 4) (v := ?_) rfl (by kernel_rfl) (by kernel_rfl) (by kernel_rfl) (fun _ _ _ h => h) (Or.inl ⟨by kernel_rfl, ?_⟩) (by assumption) ?_
    rotate_left
    · intro w hSw; (try dsimp only at hSw); go_simp; (try with_reducible rfl)
    (try simp only [Act.put, List.setIfInBounds_toArray, List.set_cons_zero, List.set_cons_succ])
    refine wpAnyH_take (i := 5) (v := ?_) rfl (by kernel_rfl) (by kernel_rfl) (by kernel_rfl) (fun _ _ _ h => h) (Or.inl ⟨by kernel_rfl, ?_⟩) (by assumption) ?_
    rotate_left
    · intro w hSw; (try dsimp only at hSw); go_simp; (try with_reducible rfl)
    (try simp only [Act.put, List.setIfInBounds_toArray, List.set_cons_zero, List.set_cons_succ])
    refine wpAnyH_take (i := 6) (v := ?_) rfl (by kernel_rfl) (by kernel_rfl) (by kernel_rfl) (fun _ _ _ h => h) (Or.inl ⟨by kernel_rfl, ?_⟩) (by assumption) ?_
    rotate_left
    · intro w hSw; (try dsimp only at hSw); go_simp; (try with_reducible rfl)
    (try simp only [Act.put, List.setIfInBounds_toArray, List.set_cons_zero, List.set_cons_succ])
    refine wpAnyH_take (i := 7) (v := ?_) rfl (by kernel_rfl) (by kernel_rfl) (by kernel_rfl) (fun _ _ _ h => h) (Or.inl ⟨by kernel_rfl, ?_⟩) (by assumption) ?_
    rotate_left
    · intro w hSw; (try dsimp only at hSw); go_simp; (try with_reducible rfl)
    (try simp only [Act.put, List.setIfInBounds_toArray, List.set_cons_zero, List.set_cons_succ])
    refine wpAnyH_take (i := 8) (v := ?_) rfl (by kernel_rfl) (by kernel_rfl) (by kernel_rfl) (fun _ _ _ h => h) (Or.inl ⟨by kernel_rfl, ?_⟩) (by assumption) ?_
    rotate_left
    · intro w hSw; (try dsimp only at hSw); go_simp; (try with_reducible rfl)
    (try simp only [Act.put, List.setIfInBounds_toArray, List.set_cons_zero, List.set_cons_succ])
    refine wpAnyH_take (i := 9) (v := ?_) rfl (by kernel_rfl) (by kernel_rfl) (by kernel_rfl) (fun _ _ _ h => h) (Or.inl ⟨by kernel_rfl, ?_⟩) (by assumption) ?_
    rotate_left
    · intro w hSw; (try dsimp only at hSw); go_simp; (try with_reducible rfl)
    (try simp only [Act.put, List.setIfInBounds_toArray, List.set_cons_zero, List.set_cons_succ])
    refine wpAnyH_take (i := 10) (v := ?_) rfl (by kernel_rfl) (by kernel_rfl) (by kernel_rfl) (fun _ _ _ h => h) (Or.inl ⟨by kernel_rfl, ?_⟩) (by assumption) ?_
    rotate_left
    · intro w hSw; (try dsimp only at hSw); go_simp; (try with_reducible rfl)
    (try simp only [Act.put, List.setIfInBounds_toArray, List.set_cons_zero, List.set_cons_succ])
    refine wpAnyH_take (i := 11) (v := ?_) rfl (by kernel_rfl) (by kernel_rfl) (by kernel_rfl) (fun _ _ _ h => h) (Or.inl ⟨by kernel_rfl, ?_⟩) (by assumption) ?_
    rotate_left
    · intro w hSw; (try dsimp only at hSw); go_simp; (try with_reducible rfl)
    (try simp only [Act.put, List.setIfInBounds_toArray, List.set_cons_zero, List.set_cons_succ])
    refine wpAnyH_take (i := 12) (v := ?_) rfl (by kernel_rfl) (by kernel_rfl) (by kernel_rfl) (fun _ _ _ h => h) (Or.inl ⟨by kernel_rfl, ?_⟩) (by assumption) ?_
    rotate_left
    · intro w hSw; (try dsimp only at hSw); go_simp; (try with_reducible rfl)
    (try simp only [Act.put, List.setIfInBounds_toArray, List.set_cons_zero, List.set_cons_succ])
    refine wpAnyH_ready (rs := [13]) (by kernel_rfl) (by simp) ?_
    refine AllReadyH.cons rfl (fun K hK => ?_) AllReadyH.nil
    go_simp
    refine hK.out _ _ trivial (fun hHeld' => ?_)
    clear hK K hHeld
    have hHeld := hHeld'
    clear hHeld'
    (try simp only [Act.put, List.setIfInBounds_toArray, List.set_cons_zero, List.set_cons_succ])
    refine wpAnyH_take (i := 14) (v := ?_) rfl (by kernel_rfl) (by kernel_rfl) (by kernel_rfl) (fun _ _ _ h => h) (Or.inl ⟨by kernel_rfl, ?_⟩) (by assumption) ?_
    rotate_left
    · intro w hSw; (try dsimp only at hSw); go_simp; (try with_reducible rfl)
    (try simp only [Act.put, List.setIfInBounds_toArray, List.set_cons_zero, List.set_cons_succ])
    refine wpAnyH_ready (rs := [15]) (by kernel_rfl) (by simp) ?_
    refine AllReadyH.cons rfl (fun K hK => ?_) AllReadyH.nil
    go_simp
    refine hK.out _ _ trivial (fun hHeld' => ?_)
    clear hK K hHeld
    have hHeld := hHeld'
    clear hHeld'
    (try simp only [Act.put, List.setIfInBounds_toArray, List.set_cons_zero, List.set_cons_succ])
    refine wpAnyH_take (i := 16) (v := ?_) rfl (by kernel_rfl) (by kernel_rfl) (by kernel_rfl) (fun _ _ _ h => h) (Or.inl ⟨by kernel_rfl, ?_⟩) (by assumption) ?_
    rotate_left
    · intro w hSw; (try dsimp only at hSw); go_simp; (try with_reducible rfl)
    (try simp only [Act.put, List.setIfInBounds_toArray, List.set_cons_zero, List.set_cons_succ])
    refine wpAnyH_ready (rs := [17]) (by kernel_rfl) (by simp) ?_
    refine AllReadyH.cons rfl (fun K hK => ?_) AllReadyH.nil
    go_simp
    refine hK.out _ _ trivial (fun hHeld' => ?_)
    clear hK K hHeld
    have hHeld := hHeld'
    clear hHeld'
    (try simp only [Act.put, List.setIfInBounds_toArray, List.set_cons_zero, List.set_cons_succ])
    refine wpAnyH_done (by kernel_rfl) ?_ _
    go_wp2_with fail
    exact bodyPost_ret (v := .tuple #[(⟨b8 s (a + 1), b8 s (a + 2), b8 s (a + 3), b8 s (a + 4)⟩ : Qc).v, .int .i64 (1), .int .i64 5, .bool true]) (by simp [results, Tryz.results66, go_sem, Qc.v, b8_int]) rfl ⟨(((((Below.refl _ _).alloc (Nat.le_refl _) _).alloc (by simp) _).alloc (by simp; omega) _)).drew, .inl ⟨by omega, rfl⟩⟩
  · have b5 : (s.size : Int) < (a : Int) + 5 := by omega
    unfold Qc.v
    go_enter Tryz.func66, Tryz.ntmps66
    go_wp2_with fail
    exact bodyPost_ret (v := .tuple #[qnone.v, .int .i64 0, .int .i64 0, .bool false]) (by simp [results, Tryz.results66, go_sem, Qc.v, qnone]) rfl ⟨((Below.refl _ _).alloc (Nat.le_refl _) _).alloc (by simp) _, .inr ⟨by omega, rfl⟩⟩
end Go.Proofs.YtojobfnbakiicaaGreat
