/- sun: what is wrong with a head behind its sign. sun: the next byte of rows, as it stands or of packets. -/
import Derived.Test.YtccldalagbfmhaaGreatSunA
import Derived.Deep.RegionHeld3
import Derived.Test.YtccldalagbfmhaaGreatWays
namespace Go.Proofs.YtccldalagbfmhaaGreat
open Go.RowKit
set_option linter.unusedVariables false
set_option linter.unusedSimpArgs false

theorem keepAl {w : World} {p : Addr} {v : Value} (h : w.cell? p = some v) (ob : Obj) : (w.alloc ob).cell? p = some v := (World.cell?_alloc_some w p ob (by rw [h]; rfl)).trans h
set_option maxRecDepth 100000 in
set_option maxHeartbeats 4000000 in
theorem sunParse_rest {b : ByteArray} {W H d t mk mb : Nat} (hb : b.size = 32) (o : Off b sunW 0 4 4) (eW : beN b 4 4 = W) (eH : beN b 8 4 = H) (ed : beN b 12 4 = d) (et : beN b 20 4 = t) (ek : beN b 24 4 = mk) (em : beN b 28 4 = mb) (w : World) :
    Calls Tryz.prog 137 #[.string b, .int .i64 0] w fun e w' => ((∃ f : Nat × Nat, firstBad (sunChks W H d t mk mb) = some f ∧ e = .returned (.tuple #[sunPic0, .agg #[.int .i64 (f.1 : Int), .int .i64 8, .int .i64 (f.2 : Int)]])) ∨ (firstBad (sunChks W H d t mk mb) = none ∧ e = .returned (.tuple #[.agg #[.int .i64 (W : Int), .int .i64 (H : Int), .int .i64 (d : Int), .int .i64 (t : Int), .int .i64 ((mb / 3 : Nat) : Int)], .agg #[.int .i64 0, .int .i64 0, .int .i64 0]]))) ∧ Below w.heap.size w w' := by
  have H1 := Lib.hid (fun w => sunHigh_at (x := b) (a := 4) (by omega) (by omega) eW w)
  have H2 := Lib.hid (fun w => sunHigh_at (x := b) (a := 8) (by omega) (by omega) eH w)
  have H3 := Lib.hid (fun w => sunHigh_at (x := b) (a := 12) (by omega) (by omega) ed w)
  have H4 := Lib.hid (fun w => sunHigh_at (x := b) (a := 20) (by omega) (by omega) et w)
  have H5 := Lib.hid (fun w => sunHigh_at (x := b) (a := 24) (by omega) (by omega) ek w)
  have H6 := Lib.hid (fun w => sunHigh_at (x := b) (a := 28) (by omega) (by omega) em w)
  have lt : ∀ {i v : Nat}, beN b i 4 = v → v < 4294967296 := fun e => e ▸ beN_lt b _ 4
  have lW := lt eW
  have lH := lt eH
  have ld := lt ed
  have lt' := lt et
  have lk := lt ek
  have lm := lt em
  clear lt eW eH ed et ek em
  go_enter Tryz.func137, Tryz.ntmps137
  go_wp2_with fail
  have I0 := PF.new w 97 (by decide)
  have hpf : w.heap.size ≠ w.heap.size + 1 := by omega
  generalize (w.alloc (.cells #[.int .i64 0, .int .i64 0, .int .i64 0, .int .i64 0, .int .i64 0] 97)).alloc (.cells #[.int .i64 0, .int .i64 0, .int .i64 0] 31) = ws at I0 ⊢
  generalize w.heap.size + 1 = f at I0 hpf ⊢
  have HI := Lib.hid I0
  have hfp := hpf.symm
  clear I0
  go_loopg [10] 4 (fun m k wr => ∃ j : Nat, j + m = 4 ∧ k = .int .i64 (j : Int) ∧ PF w wr 97 w.heap.size f)
  case atStart => exact ⟨0, by omega, rfl, HI.out⟩
  case round =>
    obtain ⟨j, hj, rfl, p1⟩ := hrel
    have P1 := Lib.hid p1
    by_cases hlt' : j < 4
    · have hlt : (j : Int) < 4 := by omega
      have hjs : (j : Int) < (b.size : Int) := by omega
      have hjs' : j < b.size := by omega
      have hlit := sunWb_at (j := j) (by omega)
      have hbat := bat_eq hjs'
      obtain ⟨c, hc⟩ : ∃ c, sunW.getD j 0 = c := ⟨_, rfl⟩
      rw [hc] at hlit
      have heq : ((b[j].toNat : Nat) : Int) = (c : Int) := by
        have := o.same j (by omega) (by omega)
        rw [hbat, hc] at this
        omega
      clear hbat p1
      go_wp2_with fail
      go_region
      go_wp2_with fail
      go_roundg (4 - (j + 1))
      case measure => omega
      case rel => exact ⟨j + 1, by omega, by go_num, P1.out.drew⟩
    · obtain rfl : j = 4 := by omega
      clear p1 HI
      go_upto_region 8 with (first
        | (go_at_call_of 190 (Value.int .i64 4); refine (H1.out _).mono ?_; rintro e w3 ⟨rfl, rfl⟩)
        | (go_at_call_of 190 (Value.int .i64 8); refine (H2.out _).mono ?_; rintro e w3 ⟨rfl, rfl⟩)
        | (go_at_call_of 190 (Value.int .i64 12); refine (H3.out _).mono ?_; rintro e w3 ⟨rfl, rfl⟩)
        | (go_at_call_of 190 (Value.int .i64 20); refine (H4.out _).mono ?_; rintro e w3 ⟨rfl, rfl⟩)
        | (go_at_call_of 190 (Value.int .i64 28); refine (H6.out _).mono ?_; rintro e w3 ⟨rfl, rfl⟩))
      generalize hw1 : (wr.alloc (.cells #[.int .i64 (W : Int), .int .i64 (H : Int), .int .i64 (d : Int), .int .i64 (t : Int), .int .i64 ((mb : Int) / 3)] 97)).drew.drew.drew.drew.drew = w1
      have X1 : Blk w1 wr.heap.size 97 #[.int .i64 (W : Int), .int .i64 (H : Int), .int .i64 (d : Int), .int .i64 (t : Int), .int .i64 ((mb : Int) / 3)] := by rw [← hw1]; exact Blk.new wr _ _
      have P2 : Hid (PF w w1 97 w.heap.size f) := Lib.hid (by rw [← hw1]; exact (P1.out.alloc _).drew.drew.drew.drew.drew)
      have hpp : w.heap.size < wr.heap.size := Blk.lt P1.out.P
      generalize wr.heap.size = pb at X1 hpp ⊢
      have s0 := Blk.cell X1 0
      have s1 := Blk.cell X1 1
      have s2 := Blk.cell X1 2
      have s3 := Blk.cell X1 3
      clear hw1 P1
      refine wp_region_held_drew (S := (fun w' => w'.cell? ⟨pb, 0, none⟩ = some (.int .i64 (W : Int)) ∧ w'.cell? ⟨pb, 1, none⟩ = some (.int .i64 (H : Int)) ∧ w'.cell? ⟨pb, 2, none⟩ = some (.int .i64 (d : Int)) ∧ w'.cell? ⟨pb, 3, none⟩ = some (.int .i64 (t : Int)))) (by kernel_rfl) ⟨s0, s1, s2, s3⟩ (fun hHeld => ?_)
      refine wpAnyH_take (i := 0) (v := ?_) rfl (by kernel_rfl) (by kernel_rfl) (by kernel_rfl) (fun _ _ _ h => h) (Or.inl ⟨by kernel_rfl, ?_⟩) (by assumption) ?_
      rotate_left
      · intro w hSw; (try dsimp only at hSw); go_simp; (try with_reducible rfl)
      (try simp only [Act.put, List.setIfInBounds_toArray, List.set_cons_zero, List.set_cons_succ])
      refine wpAnyH_take (i := 1) (v := ?_) rfl (by kernel_rfl) (by kernel_rfl) (by kernel_rfl) (fun _ _ _ h => h) (Or.inl ⟨by kernel_rfl, ?_⟩) (by assumption) ?_
      rotate_left
      · intro w hSw; (try dsimp only at hSw); go_simp; (try with_reducible rfl)
      (try simp only [Act.put, List.setIfInBounds_toArray, List.set_cons_zero, List.set_cons_succ])
      refine wpAnyH_take (i := 2) (v := ?_) rfl (by kernel_rfl) (by kernel_rfl) (by kernel_rfl) (fun _ _ _ h => h) (Or.inl ⟨by kernel_rfl, ?_⟩) (by assumption) ?_
      rotate_left
      · intro w hSw; (try dsimp only at hSw); go_simp; (try with_reducible rfl)
      (try simp only [Act.put, List.setIfInBounds_toArray, List.set_cons_zero, List.set_cons_succ])
      refine wpAnyH_take (i := 3) (v := ?_) rfl (by kernel_rfl) (by kernel_rfl) (by kernel_rfl) (fun _ _ _ h => h) (Or.inl ⟨by kernel_rfl, ?_⟩) (by assumption) ?_
      rotate_left
      · intro w hSw; (try dsimp only at hSw); go_simp; (try with_reducible rfl)
      (try simp only [Act.put, List.setIfInBounds_toArray, List.set_cons_zero, List.set_cons_succ])
      refine wpAnyH_take (i := 4) (v := ?_) rfl (by kernel_rfl) (by kernel_rfl) (by kernel_rfl) (fun _ _ _ h => h) (Or.inl ⟨by kernel_rfl, ?_⟩) (by assumption) ?_
      rotate_left
      · intro w hSw; (try dsimp only at hSw); go_simp; (try with_reducible rfl)
      (try simp only [Act.put, List.setIfInBounds_toArray, List.set_cons_zero, List.set_cons_succ])
      refine wpAnyH_take (i := 5) (v := ?_) rfl (by kernel_rfl) (by kernel_rfl) (by kernel_rfl) (fun _ _ _ h => h) (Or.inl ⟨by kernel_rfl, ?_⟩) (by assumption) ?_
      rotate_left
      · intro w hSw; (try dsimp only at hSw); go_simp; (try with_reducible rfl)
      (try simp only [Act.put, List.setIfInBounds_toArray, List.set_cons_zero, List.set_cons_succ])
      refine wpAnyH_take (i := 6) (v := ?_) rfl (by kernel_rfl) (by kernel_rfl) (by kernel_rfl) (fun _ _ _ h => h) (Or.inl ⟨by kernel_rfl, ?_⟩) (by assumption) ?_
      rotate_left
      · intro w hSw; (try dsimp only at hSw); go_simp; (try with_reducible rfl)
      (try simp only [Act.put, List.setIfInBounds_toArray, List.set_cons_zero, List.set_cons_succ])
      refine wpAnyH_take (i := 7) (v := ?_) rfl (by kernel_rfl) (by kernel_rfl) (by kernel_rfl) (fun _ _ _ h => h) (Or.inl ⟨by kernel_rfl, ?_⟩) (by assumption) ?_
      rotate_left
      · intro w hSw; (try dsimp only at hSw); go_simp; (try with_reducible rfl)
      (try simp only [Act.put, List.setIfInBounds_toArray, List.set_cons_zero, List.set_cons_succ])
      refine wpAnyH_take (i := 8) (v := ?_) rfl (by kernel_rfl) (by kernel_rfl) (by kernel_rfl) (fun _ _ _ h => h) (Or.inl ⟨by kernel_rfl, ?_⟩) (by assumption) ?_
      rotate_left
      · intro w hSw; (try dsimp only at hSw); go_simp; (try with_reducible rfl)
      (try simp only [Act.put, List.setIfInBounds_toArray, List.set_cons_zero, List.set_cons_succ])
      refine wpAnyH_take (i := 9) (v := ?_) rfl (by kernel_rfl) (by kernel_rfl) (by kernel_rfl) (fun _ _ _ h => h) (Or.inl ⟨by kernel_rfl, ?_⟩) (by assumption) ?_
      rotate_left
      · intro w hSw; (try dsimp only at hSw); go_simp; (try with_reducible rfl)
      (try simp only [Act.put, List.setIfInBounds_toArray, List.set_cons_zero, List.set_cons_succ])
      refine wpAnyH_take (i := 10) (v := ?_) rfl (by kernel_rfl) (by kernel_rfl) (by kernel_rfl) (fun _ _ _ h => h) (Or.inl ⟨by kernel_rfl, ?_⟩) (by assumption) ?_
      rotate_left
      · intro w hSw; (try dsimp only at hSw); go_simp; (try with_reducible rfl)
      (try simp only [Act.put, List.setIfInBounds_toArray, List.set_cons_zero, List.set_cons_succ])
      refine wpAnyH_take (i := 11) (v := ?_) rfl (by kernel_rfl) (by kernel_rfl) (by kernel_rfl) (fun _ _ _ h => h) (Or.inl ⟨by kernel_rfl, ?_⟩) (by assumption) ?_
      rotate_left
      · intro w hSw; (try dsimp only at hSw); go_simp; (try with_reducible rfl)
      (try simp only [Act.put, List.setIfInBounds_toArray, List.set_cons_zero, List.set_cons_succ])
      refine wpAnyH_take (i := 12) (v := ?_) rfl (by kernel_rfl) (by kernel_rfl) (by kernel_rfl) (fun _ _ _ h => h) (Or.inl ⟨by kernel_rfl, ?_⟩) (by assumption) ?_
      rotate_left
      · intro w hSw; (try dsimp only at hSw); go_simp; (try with_reducible rfl)
      (try simp only [Act.put, List.setIfInBounds_toArray, List.set_cons_zero, List.set_cons_succ])
      refine wpAnyH_take (i := 13) (v := ?_) rfl (by kernel_rfl) (by kernel_rfl) (by kernel_rfl) (fun _ _ _ h => h) (Or.inl ⟨by kernel_rfl, ?_⟩) (by assumption) ?_
      rotate_left
      · intro w hSw; (try dsimp only at hSw); go_simp; (try with_reducible rfl)
      (try simp only [Act.put, List.setIfInBounds_toArray, List.set_cons_zero, List.set_cons_succ])
      refine wpAnyH_take (i := 14) (v := ?_) rfl (by kernel_rfl) (by kernel_rfl) (by kernel_rfl) (fun _ _ _ h => h) (Or.inl ⟨by kernel_rfl, ?_⟩) (by assumption) ?_
      rotate_left
      · intro w hSw; (try dsimp only at hSw); go_simp; (try with_reducible rfl)
      (try simp only [Act.put, List.setIfInBounds_toArray, List.set_cons_zero, List.set_cons_succ])
      refine wpAnyH_take (i := 15) (v := ?_) rfl (by kernel_rfl) (by kernel_rfl) (by kernel_rfl) (fun _ _ _ h => h) (Or.inl ⟨by kernel_rfl, ?_⟩) (by assumption) ?_
      rotate_left
      · intro w hSw; (try dsimp only at hSw); go_simp; (try with_reducible rfl)
      (try simp only [Act.put, List.setIfInBounds_toArray, List.set_cons_zero, List.set_cons_succ])
      refine wpAnyH_take (i := 16) (v := ?_) rfl (by kernel_rfl) (by kernel_rfl) (by kernel_rfl) (fun _ _ _ h => h) (Or.inl ⟨by kernel_rfl, ?_⟩) (by assumption) ?_
      rotate_left
      · intro w hSw; (try dsimp only at hSw); go_simp; (try with_reducible rfl)
      (try simp only [Act.put, List.setIfInBounds_toArray, List.set_cons_zero, List.set_cons_succ])
      refine wpAnyH_take (i := 17) (v := ?_) rfl (by kernel_rfl) (by kernel_rfl) (by kernel_rfl) (fun _ _ _ h => h) (Or.inl ⟨by kernel_rfl, ?_⟩) (by assumption) ?_
      rotate_left
      · intro w hSw; (try dsimp only at hSw); go_simp; (try with_reducible rfl)
      (try simp only [Act.put, List.setIfInBounds_toArray, List.set_cons_zero, List.set_cons_succ])
      refine wpAnyH_take (i := 21) (v := ?_) rfl (by kernel_rfl) (by kernel_rfl) (by kernel_rfl) (fun _ _ _ h => h) (Or.inl ⟨by kernel_rfl, ?_⟩) (by assumption) ?_
      rotate_left
      · intro w hSw; (try dsimp only at hSw); go_simp; (try with_reducible rfl)
      (try simp only [Act.put, List.setIfInBounds_toArray, List.set_cons_zero, List.set_cons_succ])
      refine wpAnyH_take (i := 22) (v := ?_) rfl (by kernel_rfl) (by kernel_rfl) (by kernel_rfl) (fun _ _ _ h => h) (Or.inl ⟨by kernel_rfl, ?_⟩) (by assumption) ?_
      rotate_left
      · intro w hSw; (try dsimp only at hSw); go_simp; (try with_reducible rfl)
      (try simp only [Act.put, List.setIfInBounds_toArray, List.set_cons_zero, List.set_cons_succ])
      refine wpAnyH_take (i := 23) (v := ?_) rfl (by kernel_rfl) (by kernel_rfl) (by kernel_rfl) (fun _ _ _ h => h) (Or.inl ⟨by kernel_rfl, ?_⟩) (by assumption) ?_
      rotate_left
      · intro w hSw; (try dsimp only at hSw); go_simp; (try with_reducible rfl)
      (try simp only [Act.put, List.setIfInBounds_toArray, List.set_cons_zero, List.set_cons_succ])
      refine wpAnyH_take (i := 24) (v := ?_) rfl (by kernel_rfl) (by kernel_rfl) (by kernel_rfl) (fun _ _ _ h => h) (Or.inl ⟨by kernel_rfl, ?_⟩) (by assumption) ?_
      rotate_left
      · intro w hSw; (try dsimp only at hSw); go_simp; (try with_reducible rfl)
      (try simp only [Act.put, List.setIfInBounds_toArray, List.set_cons_zero, List.set_cons_succ])
      refine wpAnyH_take (i := 25) (v := ?_) rfl (by kernel_rfl) (by kernel_rfl) (by kernel_rfl) (fun _ _ _ h => h) (Or.inl ⟨by kernel_rfl, ?_⟩) (by assumption) ?_
      rotate_left
      · intro w hSw; (try dsimp only at hSw); go_simp; (try with_reducible rfl)
      (try simp only [Act.put, List.setIfInBounds_toArray, List.set_cons_zero, List.set_cons_succ])
      refine wpAnyH_take (i := 29) (v := ?_) rfl (by kernel_rfl) (by kernel_rfl) (by kernel_rfl) (fun _ _ _ h => h) (Or.inl ⟨by kernel_rfl, ?_⟩) (by assumption) ?_
      rotate_left
      · intro w hSw; (try dsimp only at hSw); go_simp; (try with_reducible rfl)
      (try simp only [Act.put, List.setIfInBounds_toArray, List.set_cons_zero, List.set_cons_succ])
      refine wpAnyH_take (i := 31) (v := ?_) rfl (by kernel_rfl) (by kernel_rfl) (by kernel_rfl) (fun _ _ _ h => h) (Or.inl ⟨by kernel_rfl, ?_⟩) (by assumption) ?_
      rotate_left
      · intro w hSw; (try dsimp only at hSw); go_simp; (try with_reducible rfl)
      (try simp only [Act.put, List.setIfInBounds_toArray, List.set_cons_zero, List.set_cons_succ])
      refine wpAnyH_take (i := 38) (v := ?_) rfl (by kernel_rfl) (by kernel_rfl) (by kernel_rfl) (fun _ _ _ h => h) (Or.inl ⟨by kernel_rfl, ?_⟩) (by assumption) ?_
      rotate_left
      · intro w hSw; (try dsimp only at hSw); go_simp; (try with_reducible rfl)
      (try simp only [Act.put, List.setIfInBounds_toArray, List.set_cons_zero, List.set_cons_succ])
      refine wpAnyH_ready (rs := [18]) (by kernel_rfl) (by simp) ?_
      refine AllReadyH.cons rfl (fun K hK => ?_) AllReadyH.nil
      go_simp
      refine (sunDepthC d ld _).mono ?_
      rintro e w3 ⟨rfl, rfl⟩
      refine hK.out _ _ ⟨s0, s1, s2, s3⟩ (fun hHeld' => ?_)
      clear hK K hHeld
      have hHeld := hHeld'
      clear hHeld'
      (try simp only [Act.put, List.setIfInBounds_toArray, List.set_cons_zero, List.set_cons_succ])
      refine wpAnyH_take (i := 19) (v := ?_) rfl (by kernel_rfl) (by kernel_rfl) (by kernel_rfl) (fun _ _ _ h => h) (Or.inl ⟨by kernel_rfl, ?_⟩) (by assumption) ?_
      rotate_left
      · intro w hSw; (try dsimp only at hSw); go_simp; (try with_reducible rfl)
      (try simp only [Act.put, List.setIfInBounds_toArray, List.set_cons_zero, List.set_cons_succ])
      refine wpAnyH_take (i := 20) (v := ?_) rfl (by kernel_rfl) (by kernel_rfl) (by kernel_rfl) (fun _ _ _ h => h) (Or.inl ⟨by kernel_rfl, ?_⟩) (by assumption) ?_
      rotate_left
      · intro w hSw; (try dsimp only at hSw); go_simp; (try with_reducible rfl)
      (try simp only [Act.put, List.setIfInBounds_toArray, List.set_cons_zero, List.set_cons_succ])
      refine wpAnyH_ready (rs := [26]) (by kernel_rfl) (by simp) ?_
      refine AllReadyH.cons rfl (fun K hK => ?_) AllReadyH.nil
      go_simp
      refine (H5.out _).mono ?_
      rintro e w3 ⟨rfl, rfl⟩
      refine hK.out _ _ ⟨s0, s1, s2, s3⟩ (fun hHeld' => ?_)
      clear hK K hHeld
      have hHeld := hHeld'
      clear hHeld'
      (try simp only [Act.put, List.setIfInBounds_toArray, List.set_cons_zero, List.set_cons_succ])
      refine wpAnyH_take (i := 27) (v := ?_) rfl (by kernel_rfl) (by kernel_rfl) (by kernel_rfl) (fun _ _ _ h => h) (Or.inl ⟨by kernel_rfl, ?_⟩) (by assumption) ?_
      rotate_left
      · intro w hSw; (try dsimp only at hSw); go_simp; (try with_reducible rfl)
      (try simp only [Act.put, List.setIfInBounds_toArray, List.set_cons_zero, List.set_cons_succ])
      refine wpAnyH_take (i := 28) (v := ?_) rfl (by kernel_rfl) (by kernel_rfl) (by kernel_rfl) (fun _ _ _ h => h) (Or.inl ⟨by kernel_rfl, ?_⟩) (by assumption) ?_
      rotate_left
      · intro w hSw; (try dsimp only at hSw); go_simp; (try with_reducible rfl)
      (try simp only [Act.put, List.setIfInBounds_toArray, List.set_cons_zero, List.set_cons_succ])
      refine wpAnyH_ready (rs := [30]) (by kernel_rfl) (by simp) ?_
      refine AllReadyH.cons rfl (fun K hK => ?_) AllReadyH.nil
      go_simp
      refine (H5.out _).mono ?_
      rintro e w3 ⟨rfl, rfl⟩
      refine hK.out _ _ ⟨s0, s1, s2, s3⟩ (fun hHeld' => ?_)
      clear hK K hHeld
      have hHeld := hHeld'
      clear hHeld'
      (try simp only [Act.put, List.setIfInBounds_toArray, List.set_cons_zero, List.set_cons_succ])
      refine wpAnyH_ready (rs := [32]) (by kernel_rfl) (by simp) ?_
      refine AllReadyH.cons rfl (fun K hK => ?_) AllReadyH.nil
      go_simp
      refine (H6.out _).mono ?_
      rintro e w3 ⟨rfl, rfl⟩
      refine hK.out _ _ ⟨s0, s1, s2, s3⟩ (fun hHeld' => ?_)
      clear hK K hHeld
      have hHeld := hHeld'
      clear hHeld'
      (try simp only [Act.put, List.setIfInBounds_toArray, List.set_cons_zero, List.set_cons_succ])
      refine wpAnyH_ready (rs := [33]) (by kernel_rfl) (by simp) ?_
      refine AllReadyH.cons rfl (fun K hK => ?_) AllReadyH.nil
      go_simp
      refine (sunMappedC mk mb lk lm _).mono ?_
      rintro e w3 ⟨rfl, rfl⟩
      refine hK.out _ _ ⟨s0, s1, s2, s3⟩ (fun hHeld' => ?_)
      clear hK K hHeld
      have hHeld := hHeld'
      clear hHeld'
      (try simp only [Act.put, List.setIfInBounds_toArray, List.set_cons_zero, List.set_cons_succ])
      refine wpAnyH_take (i := 34) (v := ?_) rfl (by kernel_rfl) (by kernel_rfl) (by kernel_rfl) (fun _ _ _ h => h) (Or.inl ⟨by kernel_rfl, ?_⟩) (by assumption) ?_
      rotate_left
      · intro w hSw; (try dsimp only at hSw); go_simp; (try with_reducible rfl)
      (try simp only [Act.put, List.setIfInBounds_toArray, List.set_cons_zero, List.set_cons_succ])
      refine wpAnyH_take (i := 35) (v := ?_) rfl (by kernel_rfl) (by kernel_rfl) (by kernel_rfl) (fun _ _ _ h => h) (Or.inl ⟨by kernel_rfl, ?_⟩) (by assumption) ?_
      rotate_left
      · intro w hSw; (try dsimp only at hSw); go_simp; (try with_reducible rfl)
      (try simp only [Act.put, List.setIfInBounds_toArray, List.set_cons_zero, List.set_cons_succ])
      refine wpAnyH_ready (rs := [36]) (by kernel_rfl) (by simp) ?_
      refine AllReadyH.cons rfl (fun K hK => ?_) AllReadyH.nil
      go_simp
      refine hK.out _ _ ⟨keepAl s0 _, keepAl s1 _, keepAl s2 _, keepAl s3 _⟩ (fun hHeld' => ?_)
      clear hK K hHeld
      have hHeld := hHeld'
      clear hHeld'
      (try simp only [Act.put, List.setIfInBounds_toArray, List.set_cons_zero, List.set_cons_succ])
      refine wpAnyH_take (i := 37) (v := ?_) rfl (by kernel_rfl) (by kernel_rfl) (by kernel_rfl) (fun _ _ _ h => h) (Or.inl ⟨by kernel_rfl, ?_⟩) (by assumption) ?_
      rotate_left
      · intro w hSw; (try dsimp only at hSw); go_simp; (try with_reducible rfl)
      (try simp only [Act.put, List.setIfInBounds_toArray, List.set_cons_zero, List.set_cons_succ])
      refine wpAnyH_done (by kernel_rfl) ?_ _
      (try simp only [List.getElem_toArray, List.getElem_cons_succ, List.getElem_cons_zero, List.set_cons_zero, List.set_cons_succ])
      have e1 : ((W : Int) == 0) = decide (W = 0) := int_beq0 W
      have e2 : decide ((16384 : Int) < (W : Int)) = decide (16384 < W) := int_lt 16384 W
      have e3 : ((H : Int) == 0) = decide (H = 0) := int_beq0 H
      have e4 : decide ((16384 : Int) < (H : Int)) = decide (16384 < H) := int_lt 16384 H
      have e6 : decide ((3 : Int) < (t : Int)) = decide (3 < t) := int_lt 3 t
      have e7 : decide ((1 : Int) < (mk : Int)) = decide (1 < mk) := int_lt 1 mk
      simp only [e1, e2, e3, e4, e6, e7]
      clear e1 e2 e3 e4 e6 e7 s0 s1 s2 s3 hHeld
      have A0 : ∀ ob, PF w (w1.alloc ob).drew.drew.drew.drew 97 w.heap.size f := fun ob => (P2.out.alloc ob).drew.drew.drew.drew
      have A1 : ∀ ob, Blk (w1.alloc ob).drew.drew.drew.drew pb 97 #[.int .i64 (W : Int), .int .i64 (H : Int), .int .i64 (d : Int), .int .i64 (t : Int), .int .i64 ((mb : Int) / 3)] := fun ob => Blk.alloc X1 ob
      have A2 : ∀ cs T, Blk (w1.alloc (.cells cs T)).drew.drew.drew.drew w1.heap.size T cs := fun cs T => Blk.new w1 T cs
      have hsb : pb ≠ w1.heap.size := Nat.ne_of_lt (Blk.lt X1)
      have hcs : (#[.bool (decide (W = 0)), .int .i64 2, .int .i64 4, .bool (decide (16384 < W)), .int .i64 3, .int .i64 4, .bool (decide (H = 0)), .int .i64 2, .int .i64 8, .bool (decide (16384 < H)), .int .i64 3, .int .i64 8, .bool (!decide (SunDepth d)), .int .i64 3, .int .i64 12, .bool (decide (3 < t)), .int .i64 3, .int .i64 20, .bool (decide (1 < mk)), .int .i64 3, .int .i64 24, .bool (!decide (SunMapped mk mb)), .int .i64 2, .int .i64 28] : Array Value) = (chkV (sunChks W H d t mk mb)).toArray := rfl
      have hlen : (sunChks W H d t mk mb).length = 8 := rfl
      have hle : ∀ x ∈ sunChks W H d t mk mb, x.2.2 ≤ 28 := by simp [sunChks]
      go_wp2_with fail
      simp only [hcs]
      generalize hL : sunChks W H d t mk mb = L at hlen hcs hle ⊢
      have HL := Lib.hid hL
      have B0 := A0 (.cells (chkV L).toArray 263)
      have B1 := A1 (.cells (chkV L).toArray 263)
      have B2 := A2 (chkV L).toArray 263
      clear A0 A1 A2 hcs hL
      generalize hw2 : (w1.alloc (.cells (chkV L).toArray 263)).drew.drew.drew.drew = w2 at B0 B1 B2 ⊢
      generalize w1.heap.size = sb at B2 hsb ⊢
      clear hw2 P2 X1 hpp
      have HB := Lib.hid (And.intro B0 (And.intro B1 B2))
      clear B0 B1 B2
      go_loopg [75] 8 (fun m v wr => ∃ i : Nat, i + m = 8 ∧ v = .int .i64 (i : Int) ∧ (∀ j, j < i → (L[j]?.map (·.1)) = some false) ∧ PF w wr 97 w.heap.size f ∧ Blk wr pb 97 #[.int .i64 (W : Int), .int .i64 (H : Int), .int .i64 (d : Int), .int .i64 (t : Int), .int .i64 ((mb : Int) / 3)] ∧ Blk wr sb 263 (chkV L).toArray)
      case atStart => exact ⟨0, rfl, rfl, fun j hj => by omega, HB.out⟩
      case round =>
        obtain ⟨i, hi, rfl, hok, p1, x1, y1⟩ := hrel
        have P1 := Lib.hid p1
        have X1 := Lib.hid x1
        have Y1 := Lib.hid y1
        have HOK := Lib.hid hok
        by_cases hi8 : i < 8
        · have hi8I : (i : Int) < 8 := by omega
          obtain ⟨x, hx⟩ : ∃ x, L[i]? = some x := ⟨L[i]'(by omega), List.getElem?_eq_getElem (by omega)⟩
          obtain ⟨k0, k1, k2⟩ := chkV_at hx
          have c0 := (Blk.cell y1 (i * 3)).trans ((List.getElem?_toArray).trans k0)
          have c1 := (Blk.cell y1 (i * 3 + 1)).trans ((List.getElem?_toArray).trans k1)
          have c2 := (Blk.cell y1 (i * 3 + 2)).trans ((List.getElem?_toArray).trans k2)
          have hsl := Blk.lt y1
          have HX := Lib.hid hx
          obtain ⟨bo, kk, aa⟩ := x
          clear p1 x1 y1 hok k0 k1 k2 hx HB
          cases bo with
          | false =>
            go_wp2_with fail
            go_roundg (8 - (i + 1))
            case measure => omega
            case rel =>
              refine ⟨i + 1, by omega, by go_num, fun j hj => ?_, P1.out.alloc _, Blk.alloc X1.out _, Blk.alloc Y1.out _⟩
              by_cases e : j = i
              · rw [e, HX.out]; rfl
              · exact HOK.out j (by omega)
          | true =>
            have haa : (aa : Int) ≤ 28 := by have := hle _ (List.mem_of_getElem? HX.out); simp only at this; omega
            go_wp2_with (go_at_call 189; refine (sunBadC _ _ _).mono ?_; rintro e w5 ⟨rfl, b5⟩; have P5 := (P1.out.alloc _).below b5; obtain ⟨c0, c1, c2, c3, c4, z0, z1, z2, z3, z4, zl, d0, d1, d2, y0, y1, y2, yl⟩ := P5.all)
            exact bodyPost_ret (v := .tuple #[sunPic0, .agg #[.int .i64 (kk : Int), .int .i64 8, .int .i64 (aa : Int)]]) (by simp [results, Tryz.results137, go_sem, c0, c1, c2, c3, c4, d0, d1, d2, hpf, hfp, sunPic0]) rfl ⟨.inl ⟨(kk, aa), HL.out ▸ firstBad_at HOK.out HX.out, rfl⟩, P5.store⟩
        · obtain rfl : i = 8 := by omega
          have hn : firstBad L = none := firstBad_all (fun x hx => by
            obtain ⟨j, hj, rfl⟩ := List.getElem_of_mem hx
            have := hok j (by omega)
            rw [List.getElem?_eq_getElem hj] at this
            simpa using this)
          have HN := Lib.hid hn
          have q0 := Blk.cell x1 0
          have q1 := Blk.cell x1 1
          have q2 := Blk.cell x1 2
          have q3 := Blk.cell x1 3
          have q4 := Blk.cell x1 4
          obtain ⟨c0, c1, c2, c3, c4, z0, z1, z2, z3, z4, zl, d0, d1, d2, y0, y1', y2, yl⟩ := p1.all
          clear p1 x1 y1 hok hn HB
          go_wp2_with fail
          have e3 : (mb : Int) / 3 = ((mb / 3 : Nat) : Int) := by omega
          exact bodyPost_ret (v := .tuple #[.agg #[.int .i64 (W : Int), .int .i64 (H : Int), .int .i64 (d : Int), .int .i64 (t : Int), .int .i64 ((mb : Int) / 3)], .agg #[.int .i64 0, .int .i64 0, .int .i64 0]]) (by simp [results, Tryz.results137, go_sem, c0, c1, c2, c3, c4, d0, d1, d2, hpf, hfp]) rfl ⟨.inr ⟨HL.out ▸ HN.out, by rw [e3]⟩, P1.out.store⟩
end Go.Proofs.YtccldalagbfmhaaGreat
namespace Go.Proofs.YtccldalagbfmhaaGreat
open Go.RowKit
set_option linter.unusedVariables false
set_option linter.unusedSimpArgs false

/-- what reads rows: eleven cells -/
def sunXs (p x : Nat) (h : SunHd) (lv : Value) (fn : Nat) (t : SunSt) : Array Value := #[.pointer (some ⟨p, 0, none⟩), .int .i64 (h.W : Int), .int .i64 (h.H : Int), .int .i64 (h.bits : Int), .int .i64 (h.typ : Int), .int .i64 (h.n : Int), lv, .func (.func fn) #[.pointer (some ⟨x, 0, none⟩)] #[], .int .i64 (t.again : Int), .int .i64 (t.last : Int), .int .i64 (t.place : Int)]
def SunX (w : World) (p x : Nat) (h : SunHd) (lv : Value) (fn : Nat) (t : SunSt) : Prop := Blk w x 217 (sunXs p x h lv fn t)
theorem SunX.all {w : World} {p x fn : Nat} {h : SunHd} {lv : Value} {t : SunSt} (k : SunX w p x h lv fn t) : w.cell? ⟨x, 0, none⟩ = some (.pointer (some ⟨p, 0, none⟩)) ∧ w.cell? ⟨x, 1, none⟩ = some (.int .i64 (h.W : Int)) ∧ w.cell? ⟨x, 3, none⟩ = some (.int .i64 (h.bits : Int)) ∧ w.cell? ⟨x, 4, none⟩ = some (.int .i64 (h.typ : Int)) ∧ w.cell? ⟨x, 6, none⟩ = some lv ∧ w.cell? ⟨x, 7, none⟩ = some (.func (.func fn) #[.pointer (some ⟨x, 0, none⟩)] #[]) ∧ w.cell? ⟨x, 8, none⟩ = some (.int .i64 (t.again : Int)) ∧ w.cell? ⟨x, 9, none⟩ = some (.int .i64 (t.last : Int)) ∧ w.cell? ⟨x, 10, none⟩ = some (.int .i64 (t.place : Int)) ∧ x < w.heap.size :=
  ⟨Blk.cell k 0, Blk.cell k 1, Blk.cell k 3, Blk.cell k 4, Blk.cell k 6, Blk.cell k 7, Blk.cell k 8, Blk.cell k 9, Blk.cell k 10, Blk.lt k⟩
def fltV (k : Nat) (a : Nat) : Value := .agg #[.int .i64 (k : Int), .int .i64 8, .int .i64 (a : Int)]
def flt0 : Value := .agg #[.int .i64 0, .int .i64 0, .int .i64 0]
theorem srcOk0 {s : ByteArray} {a : Nat} (h : s.size ≤ 1099511627776) (ha : a ≤ s.size) : SrcOk s 0 s.size a := ⟨Nat.zero_le _, ha, Nat.le_refl _, h⟩
/-- a byte as it stands -/
def PlainPost (w w' : World) (p g : Nat) (s : ByteArray) (a : Nat) (y : Led) (e : Ending) : Prop :=
  ∃ y', LedAt w' g y' ∧ y'.Ok ∧ y'.bytes = y.bytes ∧ Turn [p, g] w w' ∧
    ((∃ kk aa : Nat, kk ≠ 0 ∧ e = .returned (.tuple #[.int .i64 0, .int .i64 0, fltV kk aa]) ∧ SrcAt w' p g s 0 s.size a ∧ NoRun y y' a s.size (a + 1 ≤ s.size) kk aa) ∨
     (e = .returned (.tuple #[.int .i64 (bat s a : Int), .int .i64 (a : Int), flt0]) ∧ SrcAt w' p g s 0 s.size (a + 1) ∧ y'.reason = 0 ∧ a + 1 ≤ s.size ∧ y.work 1 = (y', true)))
set_option maxRecDepth 100000 in
theorem sunPlain {w : World} {p g x a fn : Nat} {s : ByteArray} {h : SunHd} {lv : Value} {t : SunSt} {y : Led} (S0 : SrcAt w p g s 0 s.size a) (hsm : s.size ≤ 1099511627776) (ha : a ≤ s.size) (L0 : LedAt w g y) (ok : y.Ok) (hr : y.reason = 0) (X0 : SunX w p x h lv fn t) :
    Calls Tryz.prog 138 #[.pointer (some ⟨x, 0, none⟩)] w fun e w' => PlainPost w w' p g s a y e := by
  have F0 := FB.new w
  have S1 : SrcAt (w.alloc (.cells #[.int .i64 0, .int .i64 0, .int .i64 0] 31)) p g s 0 s.size a := Blk.alloc S0 _
  have L1 : LedAt (w.alloc (.cells #[.int .i64 0, .int .i64 0, .int .i64 0] 31)) g y := Blk.alloc L0 _
  have X1 : SunX (w.alloc (.cells #[.int .i64 0, .int .i64 0, .int .i64 0] 31)) p x h lv fn t := Blk.alloc X0 _
  have T1 : Turn [p, g] w (w.alloc (.cells #[.int .i64 0, .int .i64 0, .int .i64 0] 31)) := (Turn.refl _ _).alloc _
  have nf : w.heap.size ∉ [p, g] := by have := Blk.lt S0; have := Blk.lt L0; simp; omega
  have nx : x ∉ [p, g] := by simp only [List.mem_cons, List.not_mem_nil, or_false, not_or]; exact ⟨Blk.ne_ X0 S0 (by decide), Blk.ne_ X0 L0 (by decide)⟩
  obtain ⟨x0, x1, x3, x4, x6, x7, x8, x9, x10, xl⟩ := SunX.all X1
  have hxf : x ≠ w.heap.size := Nat.ne_of_lt (Blk.lt X0)
  have hpf : p ≠ w.heap.size := Nat.ne_of_lt (Blk.lt S0)
  have hgf : g ≠ w.heap.size := Nat.ne_of_lt (Blk.lt L0)
  have hnf : w.heap.size ≤ w.heap.size := Nat.le_refl _
  have O := Lib.hid (srcOk0 hsm ha)
  have HX := Lib.hid X1
  have HF := Lib.hid F0
  have HT := Lib.hid T1
  have HS := Lib.hid S1
  have HL := Lib.hid L1
  have HK := Lib.hid ok
  have HR := Lib.hid hr
  clear S0 L0 X0 F0 S1 L1 X1 T1 ok hr
  go_enter Tryz.func138, Tryz.ntmps138
  go_wp2_with (first
    | (go_at_call 61; refine (srcFault_is 8 s2 l2 n2).mono ?_; rintro e w3 ⟨rfl, b3⟩; have s3 := Blk.below s2 b3 (Blk.lt s2); have l3 := Blk.below l2 b3 (Blk.lt l2); have f3 := FB.below f2 b3; have T3 := (HT.out.trans t2).trans (Turn.of_below (S := [p, g]) b3); clear f0 f1 f2' z0 z1 z2 fl; obtain ⟨f0, f1, f2', z0, z1, z2, fl⟩ := FB.all f3)
    | (go_at_call 177; refine (srcU8_ways HS.out O.out HL.out HK.out HR.out).mono ?_; rintro e w2 ⟨y', l2, ok2, b2, t2, hor⟩; have f2 := FB.turn HF.out t2 nf; have X2 : SunX w2 p x h lv fn t := Blk.turn HX.out t2 nx; clear x0 x1 x3 x4 x6 x7 x8 x9 x10 xl; obtain ⟨x0, x1, x3, x4, x6, x7, x8, x9, x10, xl⟩ := SunX.all X2; obtain ⟨f0, f1, f2', z0, z1, z2, fl⟩ := FB.all f2; rcases hor with ⟨kk, aa, rfl, s2, n2, r2⟩ | ⟨rfl, s2, yr, hle, hw⟩)
    | (go_at_call 89; refine (srcAt_at HS.out).mono ?_; rintro e w1 ⟨rfl, rfl⟩))
  · exact bodyPost_ret (v := .tuple #[.int .i64 0, .int .i64 0, fltV kk aa]) (by simp [results, Tryz.results138, go_sem, f0, f1, f2', fltV]) rfl ⟨y', Blk.st3 l3 hgf, ok2, b2, Turn.st3 T3 (.inr hnf), .inl ⟨kk, aa, n2.ne, rfl, Blk.st3 s3 hpf, r2⟩⟩
  · exact bodyPost_ret (v := .tuple #[.int .i64 (bat s a : Int), .int .i64 (a : Int), flt0]) (by simp [results, Tryz.results138, go_sem, f0, f1, f2', flt0]) rfl ⟨y', Blk.st3 l2 hgf, ok2, b2, Turn.st3 (HT.out.trans t2) (.inr hnf), .inr ⟨rfl, Blk.st3 s2 hpf, yr, hle, hw⟩⟩
/-- what the state keeps -/
structure SunSt.Ok (s : ByteArray) (t : SunSt) : Prop where
  a : t.a ≤ s.size
  p : t.place ≤ s.size
  l : t.last < 256
  g : t.again < 256
/-- the next byte, by a function that the type chooses -/
def NextPost (w w' : World) (p g x : Nat) (s : ByteArray) (h : SunHd) (lv : Value) (fn : Nat) (pk : Bool) (z : Nat) (t : SunSt) (y : Led) (e : Ending) : Prop :=
  ∃ y', LedAt w' g y' ∧ y'.Ok ∧ y'.bytes = y.bytes ∧ Turn [p, g, x] w w' ∧
    ((∃ (kk aa : Nat) (u v : Int) (tz : SunSt), kk ≠ 0 ∧ e = .returned (.tuple #[.int .i64 u, .int .i64 v, fltV kk aa]) ∧ SunX w' p x h lv fn tz ∧ ∀ k, (sunNext s pk z t k).run y = ((y'.give (z : Int)).1, .bad kk aa)) ∨
     (∃ (v q : Nat) (t' : SunSt), e = .returned (.tuple #[.int .i64 (v : Int), .int .i64 (q : Int), flt0]) ∧ v < 256 ∧ q ≤ s.size ∧ t'.Ok s ∧ y'.reason = 0 ∧ SrcAt w' p g s 0 s.size t'.a ∧ SunX w' p x h lv fn t' ∧ ∀ k, (sunNext s pk z t k).run y = (k v q t').run y'))
/-- a function is the next byte -/
def IsNext (s : ByteArray) (h : SunHd) (lv : Value) (fn : Nat) (pk : Bool) (z : Nat) : Prop :=
  (∀ x w, (callFunc fn #[.pointer (some ⟨x, 0, none⟩)]).run Tryz.prog w = .ok (.enter fn #[.pointer (some ⟨x, 0, none⟩)]) w) ∧
  ∀ w p g x t y, SrcAt w p g s 0 s.size t.a → LedAt w g y → SunX w p x h lv fn t → t.Ok s → y.Ok → y.reason = 0 → Calls Tryz.prog fn #[.pointer (some ⟨x, 0, none⟩)] w fun e w' => NextPost w w' p g x s h lv fn pk z t y e
section
variable {s : ByteArray} {h : SunHd} {lv : Value} {z : Nat}
theorem sunNext_plain {t : SunSt} {k : Nat → Nat → SunSt → Dec} : sunNext s false z t k = .work 1 z t.a (if t.a + 1 ≤ s.size then k (bat s t.a) t.a ⟨t.a + 1, t.again, t.last, t.place⟩ else sunShort s z) := by
  unfold sunNext
  simp
theorem isNext_plain (hsm : s.size ≤ 1099511627776) : IsNext s h lv 138 false z := by
  refine ⟨fun x w => by kernel_rfl, fun w p g x t y S L X ok yok hr => (sunPlain S hsm ok.a L yok hr X).mono ?_⟩
  rintro e w' ⟨y', l', ok', b', t', hor⟩
  have X' : SunX w' p x h lv 138 t := Blk.turn X t' (by simp only [List.mem_cons, List.not_mem_nil, or_false, not_or]; exact ⟨Blk.ne_ X S (by decide), Blk.ne_ X L (by decide)⟩)
  refine ⟨y', l', ok', b', t'.mono (by simp), ?_⟩
  rcases hor with ⟨kk, aa, hk, rfl, s', nr⟩ | ⟨rfl, s', yr, hle, hw⟩
  · exact .inl ⟨kk, aa, 0, 0, t, hk, rfl, X', fun k => by rw [sunNext_plain]; exact nr z _⟩
  · refine .inr ⟨bat s t.a, t.a, ⟨t.a + 1, t.again, t.last, t.place⟩, rfl, bat_lt _ _, ok.a, ⟨hle, ok.p, ok.l, ok.g⟩, yr, s', X', fun k => ?_⟩
    rw [sunNext_plain, run_work_yes hw, if_pos hle]
theorem sunNext_again {t : SunSt} {k : Nat → Nat → SunSt → Dec} (ha : 0 < t.again) : sunNext s true z t k = k t.last t.place ⟨t.a, t.again - 1, t.last, t.place⟩ := by
  unfold sunNext
  rw [if_pos ⟨rfl, ha⟩]
theorem sunNext_one {t : SunSt} {k : Nat → Nat → SunSt → Dec} (ha : ¬ 0 < t.again) (hv : bat s t.a ≠ 128) : sunNext s true z t k = .work 1 z t.a (if t.a + 1 ≤ s.size then k (bat s t.a) t.a ⟨t.a + 1, t.again, t.last, t.place⟩ else sunShort s z) := by
  unfold sunNext
  rw [if_neg (fun h => ha h.2), if_neg (fun h : true = true ∧ bat s t.a = 128 => hv h.2)]
theorem sunNext_two {t : SunSt} {k : Nat → Nat → SunSt → Dec} (ha : ¬ 0 < t.again) (hv : bat s t.a = 128) (hn : bat s (t.a + 1) = 0) : sunNext s true z t k = .work 1 z t.a (if t.a + 1 ≤ s.size then .work 1 z (t.a + 1) (if t.a + 1 + 1 ≤ s.size then k 128 t.a ⟨t.a + 2, t.again, t.last, t.place⟩ else sunShort s z) else sunShort s z) := by
  unfold sunNext
  rw [if_neg (fun h => ha h.2), if_pos (⟨rfl, hv⟩ : true = true ∧ bat s t.a = 128), if_pos hn]
theorem sunNext_three {t : SunSt} {k : Nat → Nat → SunSt → Dec} (ha : ¬ 0 < t.again) (hv : bat s t.a = 128) (hn : bat s (t.a + 1) ≠ 0) : sunNext s true z t k = .work 1 z t.a (if t.a + 1 ≤ s.size then .work 1 z (t.a + 1) (if t.a + 1 + 1 ≤ s.size then .work 1 z (t.a + 2) (if t.a + 2 + 1 ≤ s.size then k (bat s (t.a + 2)) t.a ⟨t.a + 3, bat s (t.a + 1), bat s (t.a + 2), t.a⟩ else sunShort s z) else sunShort s z) else sunShort s z) := by
  unfold sunNext
  rw [if_neg (fun h => ha h.2), if_pos (⟨rfl, hv⟩ : true = true ∧ bat s t.a = 128), if_neg hn]
set_option maxRecDepth 100000 in
theorem sunPacked_again {w : World} {p g x : Nat} {t : SunSt} {y : Led} (hsm : s.size ≤ 1099511627776) (S0 : SrcAt w p g s 0 s.size t.a) (L0 : LedAt w g y) (X0 : SunX w p x h lv 139 t) (tok : t.Ok s) (ok : y.Ok) (hr : y.reason = 0) (ha : 0 < t.again) :
    Calls Tryz.prog 139 #[.pointer (some ⟨x, 0, none⟩)] w fun e w' => NextPost w w' p g x s h lv 139 true z t y e := by
  have F0 := FB.new w
  have S1 : SrcAt (w.alloc (.cells #[.int .i64 0, .int .i64 0, .int .i64 0] 31)) p g s 0 s.size t.a := Blk.alloc S0 _
  have L1 : LedAt (w.alloc (.cells #[.int .i64 0, .int .i64 0, .int .i64 0] 31)) g y := Blk.alloc L0 _
  have X1 : SunX (w.alloc (.cells #[.int .i64 0, .int .i64 0, .int .i64 0] 31)) p x h lv 139 t := Blk.alloc X0 _
  have T1 : Turn [p, g, x] w (w.alloc (.cells #[.int .i64 0, .int .i64 0, .int .i64 0] 31)) := (Turn.refl _ _).alloc _
  have nf : w.heap.size ∉ [p, g] := by have := Blk.lt S0; have := Blk.lt L0; simp; omega
  have nx : x ∉ [p, g] := by simp only [List.mem_cons, List.not_mem_nil, or_false, not_or]; exact ⟨Blk.ne_ X0 S0 (by decide), Blk.ne_ X0 L0 (by decide)⟩
  obtain ⟨x0, x1, x3, x4, x6, x7, x8, x9, x10, xl⟩ := SunX.all X1
  have hxf : x ≠ w.heap.size := Nat.ne_of_lt (Blk.lt X0)
  have hpf : p ≠ w.heap.size := Nat.ne_of_lt (Blk.lt S0)
  have hgf : g ≠ w.heap.size := Nat.ne_of_lt (Blk.lt L0)
  have hfx := hxf.symm
  have hpx : p ≠ x := Blk.ne_ S0 X0 (by decide)
  have hgx : g ≠ x := Blk.ne_ L0 X0 (by decide)
  have hnf : w.heap.size ≤ w.heap.size := Nat.le_refl _
  have HO := Lib.hid tok
  have HF := Lib.hid F0
  have HT := Lib.hid T1
  have HS := Lib.hid S1
  have HL := Lib.hid L1
  have HK := Lib.hid ok
  have HR := Lib.hid hr
  have HX := Lib.hid X1
  obtain ⟨f0, f1, f2', z0, z1, z2, fl⟩ := FB.all F0
  have haI : (0 : Int) < (t.again : Int) := by omega
  have hgI : (t.again : Int) < 256 := by have := tok.g; omega
  have e1 : (t.again : Int) - 1 = ((t.again - 1 : Nat) : Int) := by omega
  have hfr := Blk.frozen X1 8
  clear S0 L0 X0 F0 S1 L1 X1 T1 ok hr tok
  go_enter Tryz.func139, Tryz.ntmps139
  go_upto_region 3 with fail
  obtain ⟨ws, hws⟩ : ∃ ws, w.alloc (.cells #[.int .i64 0, .int .i64 0, .int .i64 0] 31) = ws := ⟨_, rfl⟩
  rw [hws] at HF HS HL HT HX ⊢
  (try rw [e1])
  have X2 : SunX (ws.setCell ⟨x, 8, none⟩ (.int .i64 ((t.again - 1 : Nat) : Int))) p x h lv 139 ⟨t.a, t.again - 1, t.last, t.place⟩ := (Blk.set_ HX.out 8 _).eq_ (by simp [sunXs])
  have F2 : FB (ws.setCell ⟨x, 8, none⟩ (.int .i64 ((t.again - 1 : Nat) : Int))) w.heap.size 0 0 0 := Blk.far HF.out (p := ⟨x, 8, none⟩) hfx _
  have S2 : SrcAt (ws.setCell ⟨x, 8, none⟩ (.int .i64 ((t.again - 1 : Nat) : Int))) p g s 0 s.size t.a := Blk.far HS.out (p := ⟨x, 8, none⟩) hpx _
  have L2 : LedAt (ws.setCell ⟨x, 8, none⟩ (.int .i64 ((t.again - 1 : Nat) : Int))) g y := Blk.far HL.out (p := ⟨x, 8, none⟩) hgx _
  have T2 : Turn [p, g, x] w (ws.setCell ⟨x, 8, none⟩ (.int .i64 ((t.again - 1 : Nat) : Int))) := HT.out.set_ 8 _ (.inl (by simp))
  generalize ws.setCell ⟨x, 8, none⟩ (.int .i64 ((t.again - 1 : Nat) : Int)) = w2 at X2 F2 S2 L2 T2 ⊢
  clear x0 x1 x3 x4 x6 x7 x8 x9 x10 xl f0 f1 f2' z0 z1 z2 fl hfr
  obtain ⟨x0, x1, x3, x4, x6, x7, x8, x9, x10, xl⟩ := SunX.all X2
  obtain ⟨f0, f1, f2', z0, z1, z2, fl⟩ := FB.all F2
  have HD := Lib.hid (And.intro X2 (And.intro S2 (And.intro L2 T2)))
  clear X2 F2 S2 L2 T2
  go_region
  go_wp2_with fail
  exact bodyPost_ret (v := .tuple #[.int .i64 (t.last : Int), .int .i64 (t.place : Int), flt0]) (by simp [results, Tryz.results139, go_sem, f0, f1, f2', flt0]) rfl ⟨y, (Blk.st3 HD.out.2.2.1 hgf).drew, HK.out, rfl, (Turn.st3 HD.out.2.2.2 (.inr hnf)).drew, .inr ⟨t.last, t.place, ⟨t.a, t.again - 1, t.last, t.place⟩, rfl, HO.out.l, HO.out.p, ⟨HO.out.a, HO.out.p, HO.out.l, by have := HO.out.g; simp only; omega⟩, HR.out, (Blk.st3 HD.out.2.1 hpf).drew, (Blk.st3 HD.out.1 hxf).drew, fun k => by rw [sunNext_again ha]⟩⟩
-- THREE WAYS
set_option maxHeartbeats 1000000
set_option maxRecDepth 100000 in
theorem sunPacked_one {w : World} {p g x : Nat} {t : SunSt} {y : Led} (hsm : s.size ≤ 1099511627776) (S0 : SrcAt w p g s 0 s.size t.a) (L0 : LedAt w g y) (X0 : SunX w p x h lv 139 t) (tok : t.Ok s) (ok : y.Ok) (hr : y.reason = 0) (ha : ¬ 0 < t.again) (hv : bat s t.a ≠ 128) :
    Calls Tryz.prog 139 #[.pointer (some ⟨x, 0, none⟩)] w fun e w' => NextPost w w' p g x s h lv 139 true z t y e := by
  have F0 := FB.new w
  have S1 : SrcAt (w.alloc (.cells #[.int .i64 0, .int .i64 0, .int .i64 0] 31)) p g s 0 s.size t.a := Blk.alloc S0 _
  have L1 : LedAt (w.alloc (.cells #[.int .i64 0, .int .i64 0, .int .i64 0] 31)) g y := Blk.alloc L0 _
  have X1 : SunX (w.alloc (.cells #[.int .i64 0, .int .i64 0, .int .i64 0] 31)) p x h lv 139 t := Blk.alloc X0 _
  have T1 : Turn [p, g, x] w (w.alloc (.cells #[.int .i64 0, .int .i64 0, .int .i64 0] 31)) := (Turn.refl _ _).alloc _
  have nf : w.heap.size ∉ [p, g] := by have := Blk.lt S0; have := Blk.lt L0; simp; omega
  have nx : x ∉ [p, g] := by simp only [List.mem_cons, List.not_mem_nil, or_false, not_or]; exact ⟨Blk.ne_ X0 S0 (by decide), Blk.ne_ X0 L0 (by decide)⟩
  obtain ⟨x0, x1, x3, x4, x6, x7, x8, x9, x10, xl⟩ := SunX.all X1
  have hxf : x ≠ w.heap.size := Nat.ne_of_lt (Blk.lt X0)
  have hpf : p ≠ w.heap.size := Nat.ne_of_lt (Blk.lt S0)
  have hgf : g ≠ w.heap.size := Nat.ne_of_lt (Blk.lt L0)
  have hfx := hxf.symm
  have hpx : p ≠ x := Blk.ne_ S0 X0 (by decide)
  have hgx : g ≠ x := Blk.ne_ L0 X0 (by decide)
  have hnf : w.heap.size ≤ w.heap.size := Nat.le_refl _
  have HO := Lib.hid tok
  have HF := Lib.hid F0
  have HT := Lib.hid T1
  have HS := Lib.hid S1
  have HL := Lib.hid L1
  have HK := Lib.hid ok
  have HR := Lib.hid hr
  have HX := Lib.hid X1
  obtain ⟨f0, f1, f2', z0, z1, z2, fl⟩ := FB.all F0
  have haI : ¬ (0 : Int) < (t.again : Int) := by omega
  have hvI : ¬ (bat s t.a : Int) = 128 := by omega
  clear S0 L0 X0 F0 S1 L1 X1 T1 ok hr tok
  go_enter Tryz.func139, Tryz.ntmps139
  go_wp2_with (go_at_call 138; refine (sunPlain (a := t.a) HS.out hsm HO.out.a HL.out HK.out HR.out HX.out).mono ?_; rintro e w2 ⟨y2, l2, ok2, b2, t2, hor⟩; have F2 := FB.turn HF.out t2 nf; have X2 : SunX w2 p x h lv 139 t := Blk.turn HX.out t2 nx; have q2 : SunX (st3 w2 w.heap.size (.int .i64 0) (.int .i64 0) (.int .i64 0)) p x h lv 139 t := Blk.st3 X2 hxf; have r2 : FB (st3 w2 w.heap.size (.int .i64 0) (.int .i64 0) (.int .i64 0)) w.heap.size 0 0 0 := FB.st3 F2; have m2 : LedAt (st3 w2 w.heap.size (.int .i64 0) (.int .i64 0) (.int .i64 0)) g y2 := Blk.st3 l2 hgf; clear x0 x1 x3 x4 x6 x7 x8 x9 x10 xl f0 f1 f2' z0 z1 z2 fl; obtain ⟨x0, x1, x3, x4, x6, x7, x8, x9, x10, xl⟩ := SunX.all X2; obtain ⟨f0, f1, f2', z0, z1, z2, fl⟩ := FB.all F2; simp only [fltV, flt0] at hor; rcases hor with ⟨k2, a2, hk2, rfl, s2, nr2⟩ | ⟨rfl, s2, yr2, hle2, hw2⟩; all_goals (try (have hkI2 : ¬ (k2 : Int) = 0 := by omega)); all_goals (try (have S2 : SrcAt (st3 w2 w.heap.size (.int .i64 0) (.int .i64 0) (.int .i64 0)) p g s 0 s.size (t.a + 1) := Blk.st3 s2 hpf)))
  · generalize hw9 : ((w2.setCell ⟨w.heap.size, 0, none⟩ (.int .i64 (k2 : Int))).setCell ⟨w.heap.size, 1, none⟩ (.int .i64 8)).setCell ⟨w.heap.size, 2, none⟩ (.int .i64 (a2 : Int)) = w9
    have F9 : FB w9 w.heap.size (k2 : Int) 8 (a2 : Int) := by rw [← hw9]; exact FB.st3 F2
    have S9 : SrcAt w9 p g s 0 s.size t.a := by rw [← hw9]; exact Blk.st3 s2 hpf
    have L9 : LedAt w9 g y2 := by rw [← hw9]; exact Blk.st3 l2 hgf
    have X9 : SunX w9 p x h lv 139 t := by rw [← hw9]; exact Blk.st3 X2 hxf
    have T9 : Turn [p, g, x] w w9 := by rw [← hw9]; exact Turn.st3 (HT.out.trans (t2.mono (by simp))) (.inr hnf)
    have HD := Lib.hid (And.intro X9 (And.intro S9 (And.intro L9 T9)))
    clear x0 x1 x3 x4 x6 x7 x8 x9 x10 xl f0 f1 f2' z0 z1 z2 fl X9 S9 L9 T9 hw9
    obtain ⟨f0, f1, f2', z0, z1, z2, fl⟩ := FB.all F9
    clear F9
    go_region
    go_wp2_with fail
    exact bodyPost_ret (v := .tuple #[.int .i64 0, .int .i64 0, fltV k2 a2]) (by simp [results, Tryz.results139, go_sem, f0, f1, f2', fltV, flt0]) rfl ⟨y2, (Blk.st3 HD.out.2.2.1 hgf).drew, ok2, b2, (Turn.st3 HD.out.2.2.2 (.inr hnf)).drew, .inl ⟨k2, a2, 0, 0, t, hk2, rfl, (Blk.st3 HD.out.1 hxf).drew, fun k => by rw [sunNext_one ha hv]; exact nr2 z _⟩⟩
  · generalize hw9 : ((w2.setCell ⟨w.heap.size, 0, none⟩ (.int .i64 0)).setCell ⟨w.heap.size, 1, none⟩ (.int .i64 0)).setCell ⟨w.heap.size, 2, none⟩ (.int .i64 0) = w9
    have F9 : FB w9 w.heap.size 0 0 0 := by rw [← hw9]; exact FB.st3 F2
    have S9 : SrcAt w9 p g s 0 s.size (t.a + 1) := by rw [← hw9]; exact Blk.st3 s2 hpf
    have L9 : LedAt w9 g y2 := by rw [← hw9]; exact Blk.st3 l2 hgf
    have X9 : SunX w9 p x h lv 139 t := by rw [← hw9]; exact Blk.st3 X2 hxf
    have T9 : Turn [p, g, x] w w9 := by rw [← hw9]; exact Turn.st3 (HT.out.trans (t2.mono (by simp))) (.inr hnf)
    have HD := Lib.hid (And.intro X9 (And.intro S9 (And.intro L9 T9)))
    clear x0 x1 x3 x4 x6 x7 x8 x9 x10 xl f0 f1 f2' z0 z1 z2 fl X9 S9 L9 T9 hw9
    obtain ⟨f0, f1, f2', z0, z1, z2, fl⟩ := FB.all F9
    clear F9
    go_region
    go_wp2_with fail
    exact bodyPost_ret (v := .tuple #[.int .i64 (bat s t.a : Int), .int .i64 (t.a : Int), flt0]) (by simp [results, Tryz.results139, go_sem, f0, f1, f2', fltV, flt0]) rfl ⟨y2, (Blk.st3 HD.out.2.2.1 hgf).drew, ok2, b2, (Turn.st3 HD.out.2.2.2 (.inr hnf)).drew, .inr ⟨bat s t.a, t.a, ⟨t.a + 1, t.again, t.last, t.place⟩, rfl, bat_lt _ _, HO.out.a, ⟨hle2, HO.out.p, HO.out.l, HO.out.g⟩, yr2, (Blk.st3 HD.out.2.1 hpf).drew, (Blk.st3 HD.out.1 hxf).drew, fun k => by rw [sunNext_one ha hv, run_work_yes hw2, if_pos hle2]⟩⟩
set_option maxRecDepth 100000 in
theorem sunPacked_two {w : World} {p g x : Nat} {t : SunSt} {y : Led} (hsm : s.size ≤ 1099511627776) (S0 : SrcAt w p g s 0 s.size t.a) (L0 : LedAt w g y) (X0 : SunX w p x h lv 139 t) (tok : t.Ok s) (ok : y.Ok) (hr : y.reason = 0) (ha : ¬ 0 < t.again) (hv : bat s t.a = 128) (hn : bat s (t.a + 1) = 0) :
    Calls Tryz.prog 139 #[.pointer (some ⟨x, 0, none⟩)] w fun e w' => NextPost w w' p g x s h lv 139 true z t y e := by
  have F0 := FB.new w
  have S1 : SrcAt (w.alloc (.cells #[.int .i64 0, .int .i64 0, .int .i64 0] 31)) p g s 0 s.size t.a := Blk.alloc S0 _
  have L1 : LedAt (w.alloc (.cells #[.int .i64 0, .int .i64 0, .int .i64 0] 31)) g y := Blk.alloc L0 _
  have X1 : SunX (w.alloc (.cells #[.int .i64 0, .int .i64 0, .int .i64 0] 31)) p x h lv 139 t := Blk.alloc X0 _
  have T1 : Turn [p, g, x] w (w.alloc (.cells #[.int .i64 0, .int .i64 0, .int .i64 0] 31)) := (Turn.refl _ _).alloc _
  have nf : w.heap.size ∉ [p, g] := by have := Blk.lt S0; have := Blk.lt L0; simp; omega
  have nx : x ∉ [p, g] := by simp only [List.mem_cons, List.not_mem_nil, or_false, not_or]; exact ⟨Blk.ne_ X0 S0 (by decide), Blk.ne_ X0 L0 (by decide)⟩
  obtain ⟨x0, x1, x3, x4, x6, x7, x8, x9, x10, xl⟩ := SunX.all X1
  have hxf : x ≠ w.heap.size := Nat.ne_of_lt (Blk.lt X0)
  have hpf : p ≠ w.heap.size := Nat.ne_of_lt (Blk.lt S0)
  have hgf : g ≠ w.heap.size := Nat.ne_of_lt (Blk.lt L0)
  have hfx := hxf.symm
  have hpx : p ≠ x := Blk.ne_ S0 X0 (by decide)
  have hgx : g ≠ x := Blk.ne_ L0 X0 (by decide)
  have hnf : w.heap.size ≤ w.heap.size := Nat.le_refl _
  have HO := Lib.hid tok
  have HF := Lib.hid F0
  have HT := Lib.hid T1
  have HS := Lib.hid S1
  have HL := Lib.hid L1
  have HK := Lib.hid ok
  have HR := Lib.hid hr
  have HX := Lib.hid X1
  obtain ⟨f0, f1, f2', z0, z1, z2, fl⟩ := FB.all F0
  have haI : ¬ (0 : Int) < (t.again : Int) := by omega
  have hvI : (bat s t.a : Int) = 128 := by omega
  have hnI : (bat s (t.a + 1) : Int) = 0 := by omega
  clear S0 L0 X0 F0 S1 L1 X1 T1 ok hr tok
  go_enter Tryz.func139, Tryz.ntmps139
  go_wp2_with (first
    | (go_at_call 138; refine (sunPlain (a := t.a + 1) S2 hsm hle2 m2 ok2 yr2 q2).mono ?_; rintro e w4 ⟨y4, l4, ok4, b4, t4, hor⟩; have F4 := FB.turn r2 t4 nf; have X4 : SunX w4 p x h lv 139 t := Blk.turn q2 t4 nx; have q4 : SunX (st3 w4 w.heap.size (.int .i64 0) (.int .i64 0) (.int .i64 0)) p x h lv 139 t := Blk.st3 X4 hxf; have r4 : FB (st3 w4 w.heap.size (.int .i64 0) (.int .i64 0) (.int .i64 0)) w.heap.size 0 0 0 := FB.st3 F4; have m4 : LedAt (st3 w4 w.heap.size (.int .i64 0) (.int .i64 0) (.int .i64 0)) g y4 := Blk.st3 l4 hgf; clear x0 x1 x3 x4 x6 x7 x8 x9 x10 xl f0 f1 f2' z0 z1 z2 fl; obtain ⟨x0, x1, x3, x4, x6, x7, x8, x9, x10, xl⟩ := SunX.all X4; obtain ⟨f0, f1, f2', z0, z1, z2, fl⟩ := FB.all F4; simp only [fltV, flt0] at hor; rcases hor with ⟨k4, a4, hk4, rfl, s4, nr4⟩ | ⟨rfl, s4, yr4, hle4, hw4⟩; all_goals (try (have hkI4 : ¬ (k4 : Int) = 0 := by omega)); all_goals (try (have S4 : SrcAt (st3 w4 w.heap.size (.int .i64 0) (.int .i64 0) (.int .i64 0)) p g s 0 s.size (t.a + 1 + 1) := Blk.st3 s4 hpf)))
    | (go_at_call 138; refine (sunPlain (a := t.a) HS.out hsm HO.out.a HL.out HK.out HR.out HX.out).mono ?_; rintro e w2 ⟨y2, l2, ok2, b2, t2, hor⟩; have F2 := FB.turn HF.out t2 nf; have X2 : SunX w2 p x h lv 139 t := Blk.turn HX.out t2 nx; have q2 : SunX (st3 w2 w.heap.size (.int .i64 0) (.int .i64 0) (.int .i64 0)) p x h lv 139 t := Blk.st3 X2 hxf; have r2 : FB (st3 w2 w.heap.size (.int .i64 0) (.int .i64 0) (.int .i64 0)) w.heap.size 0 0 0 := FB.st3 F2; have m2 : LedAt (st3 w2 w.heap.size (.int .i64 0) (.int .i64 0) (.int .i64 0)) g y2 := Blk.st3 l2 hgf; clear x0 x1 x3 x4 x6 x7 x8 x9 x10 xl f0 f1 f2' z0 z1 z2 fl; obtain ⟨x0, x1, x3, x4, x6, x7, x8, x9, x10, xl⟩ := SunX.all X2; obtain ⟨f0, f1, f2', z0, z1, z2, fl⟩ := FB.all F2; simp only [fltV, flt0] at hor; rcases hor with ⟨k2, a2, hk2, rfl, s2, nr2⟩ | ⟨rfl, s2, yr2, hle2, hw2⟩; all_goals (try (have hkI2 : ¬ (k2 : Int) = 0 := by omega)); all_goals (try (have S2 : SrcAt (st3 w2 w.heap.size (.int .i64 0) (.int .i64 0) (.int .i64 0)) p g s 0 s.size (t.a + 1) := Blk.st3 s2 hpf))))
  · generalize hw9 : ((w2.setCell ⟨w.heap.size, 0, none⟩ (.int .i64 (k2 : Int))).setCell ⟨w.heap.size, 1, none⟩ (.int .i64 8)).setCell ⟨w.heap.size, 2, none⟩ (.int .i64 (a2 : Int)) = w9
    have F9 : FB w9 w.heap.size (k2 : Int) 8 (a2 : Int) := by rw [← hw9]; exact FB.st3 F2
    have S9 : SrcAt w9 p g s 0 s.size t.a := by rw [← hw9]; exact Blk.st3 s2 hpf
    have L9 : LedAt w9 g y2 := by rw [← hw9]; exact Blk.st3 l2 hgf
    have X9 : SunX w9 p x h lv 139 t := by rw [← hw9]; exact Blk.st3 X2 hxf
    have T9 : Turn [p, g, x] w w9 := by rw [← hw9]; exact Turn.st3 (HT.out.trans (t2.mono (by simp))) (.inr hnf)
    have HD := Lib.hid (And.intro X9 (And.intro S9 (And.intro L9 T9)))
    clear x0 x1 x3 x4 x6 x7 x8 x9 x10 xl f0 f1 f2' z0 z1 z2 fl X9 S9 L9 T9 hw9
    obtain ⟨f0, f1, f2', z0, z1, z2, fl⟩ := FB.all F9
    clear F9
    go_region
    go_wp2_with fail
    exact bodyPost_ret (v := .tuple #[.int .i64 0, .int .i64 0, fltV k2 a2]) (by simp [results, Tryz.results139, go_sem, f0, f1, f2', fltV, flt0]) rfl ⟨y2, (Blk.st3 HD.out.2.2.1 hgf).drew, ok2, b2, (Turn.st3 HD.out.2.2.2 (.inr hnf)).drew, .inl ⟨k2, a2, 0, 0, t, hk2, rfl, (Blk.st3 HD.out.1 hxf).drew, fun k => by rw [sunNext_two ha hv hn]; exact nr2 z _⟩⟩
  · generalize hw9 : ((w4.setCell ⟨w.heap.size, 0, none⟩ (.int .i64 (k4 : Int))).setCell ⟨w.heap.size, 1, none⟩ (.int .i64 8)).setCell ⟨w.heap.size, 2, none⟩ (.int .i64 (a4 : Int)) = w9
    have F9 : FB w9 w.heap.size (k4 : Int) 8 (a4 : Int) := by rw [← hw9]; exact FB.st3 F4
    have S9 : SrcAt w9 p g s 0 s.size (t.a + 1) := by rw [← hw9]; exact Blk.st3 s4 hpf
    have L9 : LedAt w9 g y4 := by rw [← hw9]; exact Blk.st3 l4 hgf
    have X9 : SunX w9 p x h lv 139 t := by rw [← hw9]; exact Blk.st3 X4 hxf
    have T9 : Turn [p, g, x] w w9 := by rw [← hw9]; exact Turn.st3 ((Turn.st3 (HT.out.trans (t2.mono (by simp))) (.inr hnf)).trans (t4.mono (by simp))) (.inr hnf)
    have HD := Lib.hid (And.intro X9 (And.intro S9 (And.intro L9 T9)))
    clear x0 x1 x3 x4 x6 x7 x8 x9 x10 xl f0 f1 f2' z0 z1 z2 fl X9 S9 L9 T9 hw9
    obtain ⟨f0, f1, f2', z0, z1, z2, fl⟩ := FB.all F9
    clear F9
    go_region
    go_wp2_with fail
    exact bodyPost_ret (v := .tuple #[.int .i64 128, .int .i64 (t.a : Int), fltV k4 a4]) (by simp [results, Tryz.results139, go_sem, f0, f1, f2', fltV, flt0]) rfl ⟨y4, (Blk.st3 HD.out.2.2.1 hgf).drew, ok4, (b4.trans b2), (Turn.st3 HD.out.2.2.2 (.inr hnf)).drew, .inl ⟨k4, a4, 128, t.a, t, hk4, rfl, (Blk.st3 HD.out.1 hxf).drew, fun k => by rw [sunNext_two ha hv hn, run_work_yes hw2, if_pos hle2]; exact nr4 z _⟩⟩
  · generalize hw9 : ((w4.setCell ⟨w.heap.size, 0, none⟩ (.int .i64 0)).setCell ⟨w.heap.size, 1, none⟩ (.int .i64 0)).setCell ⟨w.heap.size, 2, none⟩ (.int .i64 0) = w9
    have F9 : FB w9 w.heap.size 0 0 0 := by rw [← hw9]; exact FB.st3 F4
    have S9 : SrcAt w9 p g s 0 s.size (t.a + 2) := by rw [← hw9]; exact Blk.st3 s4 hpf
    have L9 : LedAt w9 g y4 := by rw [← hw9]; exact Blk.st3 l4 hgf
    have X9 : SunX w9 p x h lv 139 t := by rw [← hw9]; exact Blk.st3 X4 hxf
    have T9 : Turn [p, g, x] w w9 := by rw [← hw9]; exact Turn.st3 ((Turn.st3 (HT.out.trans (t2.mono (by simp))) (.inr hnf)).trans (t4.mono (by simp))) (.inr hnf)
    have HD := Lib.hid (And.intro X9 (And.intro S9 (And.intro L9 T9)))
    clear x0 x1 x3 x4 x6 x7 x8 x9 x10 xl f0 f1 f2' z0 z1 z2 fl X9 S9 L9 T9 hw9
    obtain ⟨f0, f1, f2', z0, z1, z2, fl⟩ := FB.all F9
    clear F9
    go_region
    go_wp2_with fail
    exact bodyPost_ret (v := .tuple #[.int .i64 128, .int .i64 (t.a : Int), flt0]) (by simp [results, Tryz.results139, go_sem, f0, f1, f2', fltV, flt0]) rfl ⟨y4, (Blk.st3 HD.out.2.2.1 hgf).drew, ok4, (b4.trans b2), (Turn.st3 HD.out.2.2.2 (.inr hnf)).drew, .inr ⟨128, t.a, ⟨t.a + 2, t.again, t.last, t.place⟩, rfl, by decide, HO.out.a, ⟨hle4, HO.out.p, HO.out.l, HO.out.g⟩, yr4, (Blk.st3 HD.out.2.1 hpf).drew, (Blk.st3 HD.out.1 hxf).drew, fun k => by rw [sunNext_two ha hv hn, run_work_yes hw2, if_pos hle2, run_work_yes hw4, if_pos hle4]⟩⟩
end
end Go.Proofs.YtccldalagbfmhaaGreat
