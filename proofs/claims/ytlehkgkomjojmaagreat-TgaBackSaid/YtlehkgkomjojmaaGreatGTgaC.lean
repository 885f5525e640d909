/- tgahead: what is wrong with a head. -/
import Derived.Test.YtlehkgkomjojmaaGreatSq
import Derived.Test.YtlehkgkomjojmaaGreatGTgaA
import Derived.Test.YtlehkgkomjojmaaGreatGTgaB
import Derived.Deep.RegionHeld3
import Derived.Deep.CutRange
import Derived.Laws.EntriesVeiled
namespace Go.Proofs.YtlehkgkomjojmaaGreat
open Go.RowKit
set_option linter.unusedVariables false
set_option linter.unusedSimpArgs false

section
variable {P : Program} {ops : Array Oper} {Q : Exit → Act → World → Prop} {md : Region.Mode} {S : World → Prop}
theorem AllReadyH.cons_no {fuel : Nat} {listed : Array Bool} {a : Act} {w : World} {i : Nat} {o : Oper} {rs : List Nat} (ho : ops[i]? = some o) (hw : Region.wanted o (yielded ops a.tmps) = false) (hS : S w)
  (h : wpAnyH P md ops Q S fuel (listed.setIfInBounds i true) (a.put o.dst undef) w) (hs : AllReadyH P md ops Q S fuel listed a w rs) : AllReadyH P md ops Q S fuel listed a w (i :: rs) :=
 AllReadyH.cons ho (fun K' hK => by rw [if_neg (by rw [hw]; decide)]; exact hK.out _ _ hS (fun _ => h)) hs
theorem AllReadyH.cons_yes {fuel : Nat} {listed : Array Bool} {a : Act} {w : World} {i : Nat} {o : Oper} {rs : List Nat} (ho : ops[i]? = some o) (hw : Region.wanted o (yielded ops a.tmps) = true)
  (h : ∀ K' : Act → World → Prop, Shut (∀ a w, S w → (S w → wpAnyH P md ops Q S fuel (listed.setIfInBounds i true) a w) → K' a w) → Oper.wp P o a w K' Q) (hs : AllReadyH P md ops Q S fuel listed a w rs) : AllReadyH P md ops Q S fuel listed a w (i :: rs) :=
 AllReadyH.cons ho (fun K' hK => by rw [if_pos hw]; exact h K' hK) hs
end
/-- may a text begin with a head all the same? -/
def tgaLoose (x : Bool × Nat × Nat) : Bool := decide (x.2 = (2, 5)) || decide (x.2 = (3, 12)) || decide (x.2 = (3, 14)) || decide (x.2 = (3, 17)) || decide (x.2 = (2, 17))
/-- checks as cells: four each -/
def chkW (L : List (Bool × Nat × Nat)) : List Value := (L.map fun x => [Value.bool x.1, .int .i64 (x.2.1 : Int), .int .i64 (x.2.2 : Int), .bool (tgaLoose x)]).flatten
theorem chkW_at {L : List (Bool × Nat × Nat)} {i : Nat} {x : Bool × Nat × Nat} (h : L[i]? = some x) : (chkW L)[i * 4]? = some (.bool x.1) ∧ (chkW L)[i * 4 + 1]? = some (.int .i64 (x.2.1 : Int)) ∧ (chkW L)[i * 4 + 2]? = some (.int .i64 (x.2.2 : Int)) ∧ (chkW L)[i * 4 + 3]? = some (.bool (tgaLoose x)) := by
 induction L generalizing i with
 | nil => simp at h
 | cons y L ih =>
  have e : chkW (y :: L) = [Value.bool y.1, .int .i64 (y.2.1 : Int), .int .i64 (y.2.2 : Int), .bool (tgaLoose y)] ++ chkW L := by simp [chkW]
  cases i with
  | zero =>
   have hx : y = x := by simpa using h
   subst hx
   rw [e]
   exact ⟨rfl, rfl, rfl, rfl⟩
  | succ i =>
   have hi := ih (i := i) (by simpa using h)
   rw [e, show (i + 1) * 4 = i * 4 + 4 by omega]
   rw [List.getElem?_append_right (by simp only [List.length_cons, List.length_nil]; omega), List.getElem?_append_right (by simp only [List.length_cons, List.length_nil]; omega), List.getElem?_append_right (by simp only [List.length_cons, List.length_nil]; omega), List.getElem?_append_right (by simp only [List.length_cons, List.length_nil]; omega)]
   simp only [List.length_cons, List.length_nil]
   rw [show i * 4 + 4 - (0 + 1 + 1 + 1 + 1) = i * 4 by omega, show i * 4 + 4 + 1 - (0 + 1 + 1 + 1 + 1) = i * 4 + 1 by omega, show i * 4 + 4 + 2 - (0 + 1 + 1 + 1 + 1) = i * 4 + 2 by omega, show i * 4 + 4 + 3 - (0 + 1 + 1 + 1 + 1) = i * 4 + 3 by omega]
   exact hi
theorem tga_shr {f : Nat} (h : f < 256) : ((f : Int) / 64 != 0) = decide (64 ≤ f) := by
 rw [Bool.eq_iff_iff]; simp; omega
theorem tga_and15 {f : Nat} (h : f < 256) : bits .and .i64 (f : Int) 15 = ((f % 16 : Nat) : Int) := by
 rw [show (15 : Int) = ((15 : Nat) : Int) from rfl, and64 _ _ (by omega) (by omega), show (15 : Nat) = 2 ^ 4 - 1 from rfl, Nat.and_two_pow_sub_one_eq_mod]
theorem tgaB_int (b : ByteArray) {i v : Nat} (h : i < b.size) (hv : bat b i = v) : b[i].toNat = v := by rw [← hv, bat_eq h]
theorem chk_eq {m t e c W H d f : Nat} {b0 kn q1 q3 q4 : Bool} (h0 : b0 = decide (1 < m)) (hk : decide (TgaKnown t) = kn) (h1 : q1 = decide (tgaPlain t = 1 ∧ m ≠ 1)) (h3 : q3 = decide (m = 1 ∧ ¬ TgaCol e)) (h4 : q4 = decide (m = 1 ∧ c = 0)) :
  (#[.bool b0, .int .i64 2, .int .i64 1, .bool false, .bool !kn, .int .i64 3, .int .i64 2, .bool false, .bool q1, .int .i64 2, .int .i64 1, .bool false, .bool q3, .int .i64 3, .int .i64 7, .bool false, .bool q4, .int .i64 2, .int .i64 5, .bool true, .bool ((W : Int) == 0), .int .i64 2, .int .i64 12, .bool false, .bool (decide (16384 < (W : Int))), .int .i64 3, .int .i64 12, .bool true, .bool ((H : Int) == 0), .int .i64 2, .int .i64 14, .bool false, .bool (decide (16384 < (H : Int))), .int .i64 3, .int .i64 14, .bool true, .bool !decide (TgaDepth t d), .int .i64 3, .int .i64 16, .bool false, .bool (decide (64 ≤ f)), .int .i64 3, .int .i64 17, .bool true, .bool !decide (TgaAlpha d (f % 16)), .int .i64 2, .int .i64 17, .bool true] : Array Value) = (chkW (tgaChks m t e c W H d f)).toArray := by
 have e1 : decide ((16384 : Int) < (W : Int)) = decide (16384 < W) := by rw [Bool.eq_iff_iff, decide_eq_true_iff, decide_eq_true_iff]; omega
 have e2 : decide ((16384 : Int) < (H : Int)) = decide (16384 < H) := by rw [Bool.eq_iff_iff, decide_eq_true_iff, decide_eq_true_iff]; omega
 rw [h0, ← hk, h1, h3, h4, int_beq0, int_beq0, e1, e2]
 rfl
def TgaChkPost (w w' : World) (L : List (Bool × Nat × Nat)) (r : Ending) : Prop :=
 ∃ sb, r = .returned (.slice (some ⟨sb, 0, none⟩) 12 12) ∧ w.heap.size ≤ sb ∧ Below w.heap.size w w' ∧ Blk w' sb 205 (chkW L).toArray
set_option maxRecDepth 100000 in
set_option maxHeartbeats 4000000 in
theorem tgaChecksC {b : ByteArray} {m t f e c W H d : Nat} (hb : b.size = 18) (e1 : bat b 1 = m) (e2 : bat b 2 = t) (e17 : bat b 17 = f) (e7 : bat b 7 = e) (e5 : le2 b 5 = c) (eW : le2 b 12 = W) (eH : le2 b 14 = H) (e16 : bat b 16 = d) (w : World) :
  Calls Tryz.prog 117 #[.string b] w fun r w' => TgaChkPost w w' (tgaChks m t e c W H d f) r := by
 have bm := bat_lt b 1
 have bt := bat_lt b 2
 have bf := bat_lt b 17
 have be := bat_lt b 7
 have bd := bat_lt b 16
 have bc := le2_lt b 5
 have bW := le2_lt b 12
 have bH := le2_lt b 14
 rw [e1] at bm
 rw [e2] at bt
 rw [e17] at bf
 rw [e7] at be
 rw [e16] at bd
 rw [e5] at bc
 rw [eW] at bW
 rw [eH] at bH
 obtain ⟨v, hv⟩ : ∃ v, tgaPlain t = v := ⟨_, rfl⟩
 obtain ⟨kn, hkn⟩ : ∃ kn, decide (TgaKnown t) = kn := ⟨_, rfl⟩
 have HP := Lib.hid (fun w => tgaPlainC (by omega : t ≤ 255) hv w)
 have HK := Lib.hid (fun w => tgaPackedC t w)
 have HC := Lib.hid (fun w => tgaColC e w)
 have H12 := Lib.hid (fun w => tgaWordC (x := b) (a := 12) (by omega) (by omega) eW w)
 have H14 := Lib.hid (fun w => tgaWordC (x := b) (a := 14) (by omega) (by omega) eH w)
 have H5 := Lib.hid (fun w => tgaWordC (x := b) (a := 5) (by omega) (by omega) e5 w)
 have HD := Lib.hid (fun w => tgaDepthC (b := d) (by omega : t ≤ 255) w)
 have HA := Lib.hid (fun w => tgaAlphaC d (f % 16) w)
 have g1 := tgaB_int b (by omega) e1
 have g2 := tgaB_int b (by omega) e2
 have g7 := tgaB_int b (by omega) e7
 have g16 := tgaB_int b (by omega) e16
 have g17 := tgaB_int b (by omega) e17
 have h15 := tga_and15 bf
 have hsh := tga_shr bf
 have i1 : (1 : Int) < (b.size : Int) := by omega
 have i2 : (2 : Int) < (b.size : Int) := by omega
 have i7 : (7 : Int) < (b.size : Int) := by omega
 have i16 : (16 : Int) < (b.size : Int) := by omega
 have i17 : (17 : Int) < (b.size : Int) := by omega
 have n1 : 1 < b.size := by omega
 have n2 : 2 < b.size := by omega
 have n7 : 7 < b.size := by omega
 have n16 : 16 < b.size := by omega
 have n17 : 17 < b.size := by omega
 have q2 : IntKind.i64.wrap (t : Int) = (t : Int) := IntWalk.i64_in _ (by omega)
 have q7 : IntKind.i64.wrap (e : Int) = (e : Int) := IntWalk.i64_in _ (by omega)
 have q16 : IntKind.i64.wrap (d : Int) = (d : Int) := IntWalk.i64_in _ (by omega)
 have q17 : IntKind.i64.wrap (f : Int) = (f : Int) := IntWalk.i64_in _ (by omega)
 have HV := Lib.hid hv
 have HKN := Lib.hid hkn
 have HBT := Lib.hid (And.intro bm (And.intro bt (And.intro be (And.intro bd bf))))
 clear hv hkn e1 e2 e17 e7 e5 eW eH e16 bc bW bH
 go_enter Tryz.func117, Tryz.ntmps117
 go_upto_region 1 with fail
 go_region
 go_upto_region 2 with fail
 go_cut [6] from 19 to 34 (fun c6 wx => c6 = .bool kn ∧ wx = w.drew)
 case first =>
  by_cases hp : TgaPacked t
  ·have ht : ¬ (t : Int) ≤ 3 := by unfold TgaPacked at hp; omega
   have hk : kn = true := by rw [← HKN.out]; exact decide_eq_true (.inr hp)
   have hv1 : (1 : Int) ≤ (v : Int) := by have := HV.out; unfold tgaPlain at this; rw [if_pos hp] at this; unfold TgaPacked at hp; omega
   have hv3 : (v : Int) ≤ 3 := by have := HV.out; unfold tgaPlain at this; rw [if_pos hp] at this; unfold TgaPacked at hp; omega
   rw [decide_eq_true hp] at HK
   subst hk
   clear hp
   go_wp2_with (first | (go_at_call 164; refine (HP.out _).mono ?_; rintro e w1 ⟨rfl, rfl⟩) | (go_at_call 165; refine (HK.out _).mono ?_; rintro e w1 ⟨rfl, rfl⟩))
   go_meet
   case rel => exact ⟨rfl, rfl⟩
  ·have hvt : v = t := by have := HV.out; unfold tgaPlain at this; rw [if_neg hp] at this; omega
   rw [decide_eq_false hp] at HK
   by_cases h0 : t = 0
   ·have hv1 : ¬ (1 : Int) ≤ (v : Int) := by omega
    have hk : kn = false := by rw [← HKN.out]; exact decide_eq_false (fun h => by unfold TgaKnown at h; rcases h with h | h; exact absurd h.1 (by omega); exact hp h)
    subst hk
    clear hp hvt h0
    go_wp2_with (first | (go_at_call 164; refine (HP.out _).mono ?_; rintro e w1 ⟨rfl, rfl⟩) | (go_at_call 165; refine (HK.out _).mono ?_; rintro e w1 ⟨rfl, rfl⟩))
    go_meet
    case rel => exact ⟨rfl, rfl⟩
   ·have hv1 : (1 : Int) ≤ (v : Int) := by omega
    by_cases h3 : t ≤ 3
    ·have hv3 : (v : Int) ≤ 3 := by omega
     have ht : (t : Int) ≤ 3 := by omega
     have hk : kn = true := by rw [← HKN.out]; exact decide_eq_true (.inl ⟨by omega, h3⟩)
     subst hk
     clear hp hvt h0 h3
     go_wp2_with (first | (go_at_call 164; refine (HP.out _).mono ?_; rintro e w1 ⟨rfl, rfl⟩) | (go_at_call 165; refine (HK.out _).mono ?_; rintro e w1 ⟨rfl, rfl⟩))
     go_meet
     case rel => exact ⟨rfl, rfl⟩
    ·have hv3 : ¬ (v : Int) ≤ 3 := by omega
     have hk : kn = false := by rw [← HKN.out]; exact decide_eq_false (fun h => by unfold TgaKnown at h; rcases h with h | h; exact absurd h.2 h3; exact hp h)
     subst hk
     clear hp hvt h0 h3
     go_wp2_with (first | (go_at_call 164; refine (HP.out _).mono ?_; rintro e w1 ⟨rfl, rfl⟩) | (go_at_call 165; refine (HK.out _).mono ?_; rintro e w1 ⟨rfl, rfl⟩))
     go_meet
     case rel => exact ⟨rfl, rfl⟩
 case rest =>
  obtain ⟨rfl, rfl⟩ := hcut
  go_upto_region 3 with fail
  go_cut [7, 8, 9] from 35 to 41 (fun c7 c8 c9 wx => c7 = .int .i64 (W : Int) ∧ c8 = .int .i64 (H : Int) ∧ c9 = .int .i64 (d : Int) ∧ wx = w.drew.drew.drew.drew)
  case first =>
   go_region_with (first
    | (go_at_call_of 166 (Value.int .i64 12); refine (H12.out _).mono ?_; rintro e w3 ⟨rfl, rfl⟩)
    | (go_at_call_of 166 (Value.int .i64 14); refine (H14.out _).mono ?_; rintro e w3 ⟨rfl, rfl⟩))
   all_goals go_wp2_with fail
   all_goals go_meet
   all_goals exact ⟨rfl, rfl, rfl, rfl⟩
  case rest =>
   obtain ⟨rfl, rfl, rfl, rfl⟩ := hcut
   go_upto_region 4 with fail
   by_cases h1 : m = 1
   ·subst h1
    by_cases hv1 : v = 1
    ·subst hv1
     refine wp_region_held_drew (S := (fun _ => True)) (by kernel_rfl) trivial (fun hHeld => ?_)
     refine tk 0 ?_
     (try simp only [sps])
     refine tk 1 ?_
     (try simp only [sps])
     refine tk 2 ?_
     (try simp only [sps])
     refine tk 3 ?_
     (try simp only [sps])
     refine tk 4 ?_
     (try simp only [sps])
     refine tk 5 ?_
     (try simp only [sps])
     refine tk 6 ?_
     (try simp only [sps])
     refine tk 7 ?_
     (try simp only [sps])
     refine tk 15 ?_
     (try simp only [sps])
     refine tk 24 ?_
     (try simp only [sps])
     refine tk 31 ?_
     (try simp only [sps])
     refine tk 32 ?_
     (try simp only [sps])
     refine tk 33 ?_
     (try simp only [sps])
     refine tk 34 ?_
     (try simp only [sps])
     refine tk 35 ?_
     (try simp only [sps])
     refine tk 36 ?_
     (try simp only [sps])
     refine tk 37 ?_
     (try simp only [sps])
     refine tk 38 ?_
     (try simp only [sps])
     refine tk 39 ?_
     (try simp only [sps])
     refine tk 40 ?_
     (try simp only [sps])
     refine tk 41 ?_
     (try simp only [sps])
     refine tk 42 ?_
     (try simp only [sps])
     refine tk 43 ?_
     (try simp only [sps])
     refine tk 44 ?_
     (try simp only [sps])
     refine tk 48 ?_
     (try simp only [sps])
     refine tk 49 ?_
     (try simp only [sps])
     refine tk 50 ?_
     (try simp only [sps])
     refine tk 51 ?_
     (try simp only [sps])
     refine tk 52 ?_
     (try simp only [sps])
     refine tk 53 ?_
     (try simp only [sps])
     refine tk 54 ?_
     (try simp only [sps])
     refine rdy 8 (fun K hK => ?_)
     go_simp
     refine (HP.out _).mono ?_
     rintro e wz ⟨rfl, rfl⟩
     refine hK.out _ _ trivial ?_
     clear hK K hHeld
     intro hHeld
     (try simp only [sps])
     refine tk 9 ?_
     (try simp only [sps])
     refine tk 10 ?_
     (try simp only [sps])
     refine tk 11 ?_
     (try simp only [sps])
     refine tk 12 ?_
     (try simp only [sps])
     refine tk 13 ?_
     (try simp only [sps])
     refine tk 14 ?_
     (try simp only [sps])
     refine tk 16 ?_
     (try simp only [sps])
     refine tk 17 ?_
     (try simp only [sps])
     refine tk 18 ?_
     (try simp only [sps])
     refine tk 19 ?_
     (try simp only [sps])
     refine wpAnyH_ready (rs := [20]) (by kernel_rfl) (by simp) ?_
     refine AllReadyH.cons_yes rfl (by kernel_rfl) (fun K hK => ?_) AllReadyH.nil
     go_simp
     refine (HC.out _).mono ?_
     rintro e wz ⟨rfl, rfl⟩
     refine hK.out _ _ trivial ?_
     clear hK K hHeld
     intro hHeld
     (try simp only [sps])
     refine tk 21 ?_
     (try simp only [sps])
     refine tk 22 ?_
     (try simp only [sps])
     refine tk 23 ?_
     (try simp only [sps])
     refine tk 25 ?_
     (try simp only [sps])
     refine tk 26 ?_
     (try simp only [sps])
     refine wpAnyH_ready (rs := [27]) (by kernel_rfl) (by simp) ?_
     refine AllReadyH.cons_yes rfl (by kernel_rfl) (fun K hK => ?_) AllReadyH.nil
     go_simp
     refine (H5.out _).mono ?_
     rintro e wz ⟨rfl, rfl⟩
     refine hK.out _ _ trivial ?_
     clear hK K hHeld
     intro hHeld
     (try simp only [sps])
     refine tk 28 ?_
     (try simp only [sps])
     refine tk 29 ?_
     (try simp only [sps])
     refine tk 30 ?_
     (try simp only [sps])
     refine rdy 45 (fun K hK => ?_)
     go_simp
     refine (HD.out _).mono ?_
     rintro e wz ⟨rfl, rfl⟩
     refine hK.out _ _ trivial ?_
     clear hK K hHeld
     intro hHeld
     (try simp only [sps])
     refine tk 46 ?_
     (try simp only [sps])
     refine tk 47 ?_
     (try simp only [sps])
     refine rdy 55 (fun K hK => ?_)
     go_simp
     refine (HA.out _).mono ?_
     rintro e wz ⟨rfl, rfl⟩
     refine hK.out _ _ trivial ?_
     clear hK K hHeld
     intro hHeld
     (try simp only [sps])
     refine tk 56 ?_
     (try simp only [sps])
     refine tk 57 ?_
     (try simp only [sps])
     refine rdy 58 (fun K hK => ?_)
     go_simp
     refine hK.out _ _ trivial ?_
     clear hK K hHeld
     intro hHeld
     (try simp only [sps])
     refine tk 59 ?_
     (try simp only [sps])
     refine wpAnyH_done (by kernel_rfl) ?_ _
     (try simp only [sps])
     go_wp2_with fail
     exact bodyPost_ret (v := .slice (some ⟨_, 0, none⟩) 12 12) (by simp [results, Tryz.results117, go_sem]) rfl ⟨_, rfl, by simp, (by first | exact ((Below.refl _ _).drew.drew.drew.drew.drew.drew.alloc (Nat.le_refl _) _) | exact ((Below.refl _ _).drew.drew.drew.drew.drew.alloc (Nat.le_refl _) _)), (Blk.new _ _ _).eq_ (chk_eq (by decide) HKN.out (by simp) (by simp) (by simp [int_beq0]))⟩
    ·have hv1I : ¬ (v : Int) = 1 := by omega
     have hv1b : ((v : Int) == 1) = false := beq_eq_false_iff_ne.2 hv1I
     refine wp_region_held_drew (S := (fun _ => True)) (by kernel_rfl) trivial (fun hHeld => ?_)
     refine tk 0 ?_
     (try simp only [sps])
     refine tk 1 ?_
     (try simp only [sps])
     refine tk 2 ?_
     (try simp only [sps])
     refine tk 3 ?_
     (try simp only [sps])
     refine tk 4 ?_
     (try simp only [sps])
     refine tk 5 ?_
     (try simp only [sps])
     refine tk 6 ?_
     (try simp only [sps])
     refine tk 7 ?_
     (try simp only [sps])
     refine tk 15 ?_
     (try simp only [sps])
     refine tk 24 ?_
     (try simp only [sps])
     refine tk 31 ?_
     (try simp only [sps])
     refine tk 32 ?_
     (try simp only [sps])
     refine tk 33 ?_
     (try simp only [sps])
     refine tk 34 ?_
     (try simp only [sps])
     refine tk 35 ?_
     (try simp only [sps])
     refine tk 36 ?_
     (try simp only [sps])
     refine tk 37 ?_
     (try simp only [sps])
     refine tk 38 ?_
     (try simp only [sps])
     refine tk 39 ?_
     (try simp only [sps])
     refine tk 40 ?_
     (try simp only [sps])
     refine tk 41 ?_
     (try simp only [sps])
     refine tk 42 ?_
     (try simp only [sps])
     refine tk 43 ?_
     (try simp only [sps])
     refine tk 44 ?_
     (try simp only [sps])
     refine tk 48 ?_
     (try simp only [sps])
     refine tk 49 ?_
     (try simp only [sps])
     refine tk 50 ?_
     (try simp only [sps])
     refine tk 51 ?_
     (try simp only [sps])
     refine tk 52 ?_
     (try simp only [sps])
     refine tk 53 ?_
     (try simp only [sps])
     refine tk 54 ?_
     (try simp only [sps])
     refine rdy 8 (fun K hK => ?_)
     go_simp
     refine (HP.out _).mono ?_
     rintro e wz ⟨rfl, rfl⟩
     refine hK.out _ _ trivial ?_
     clear hK K hHeld
     intro hHeld
     (try simp only [sps])
     refine tk 9 ?_
     (try simp only [sps])
     refine tk 10 ?_
     (try simp only [sps])
     refine wpAnyH_take (i := 11) (v := undef) rfl (by kernel_rfl) (by kernel_rfl) (by kernel_rfl) (fun _ _ _ h => h) (Or.inr ⟨by kernel_rfl, rfl⟩) (by assumption) ?_
     (try simp only [sps])
     refine wpAnyH_take (i := 12) (v := undef) rfl (by kernel_rfl) (by kernel_rfl) (by kernel_rfl) (fun _ _ _ h => h) (Or.inr ⟨by kernel_rfl, rfl⟩) (by assumption) ?_
     (try simp only [sps])
     refine tk 13 ?_
     (try simp only [sps])
     refine tk 14 ?_
     (try simp only [sps])
     refine tk 16 ?_
     (try simp only [sps])
     refine tk 17 ?_
     (try simp only [sps])
     refine tk 18 ?_
     (try simp only [sps])
     refine tk 19 ?_
     (try simp only [sps])
     refine wpAnyH_ready (rs := [20]) (by kernel_rfl) (by simp) ?_
     refine AllReadyH.cons_yes rfl (by kernel_rfl) (fun K hK => ?_) AllReadyH.nil
     go_simp
     refine (HC.out _).mono ?_
     rintro e wz ⟨rfl, rfl⟩
     refine hK.out _ _ trivial ?_
     clear hK K hHeld
     intro hHeld
     (try simp only [sps])
     refine tk 21 ?_
     (try simp only [sps])
     refine tk 22 ?_
     (try simp only [sps])
     refine tk 23 ?_
     (try simp only [sps])
     refine tk 25 ?_
     (try simp only [sps])
     refine tk 26 ?_
     (try simp only [sps])
     refine wpAnyH_ready (rs := [27]) (by kernel_rfl) (by simp) ?_
     refine AllReadyH.cons_yes rfl (by kernel_rfl) (fun K hK => ?_) AllReadyH.nil
     go_simp
     refine (H5.out _).mono ?_
     rintro e wz ⟨rfl, rfl⟩
     refine hK.out _ _ trivial ?_
     clear hK K hHeld
     intro hHeld
     (try simp only [sps])
     refine tk 28 ?_
     (try simp only [sps])
     refine tk 29 ?_
     (try simp only [sps])
     refine tk 30 ?_
     (try simp only [sps])
     refine rdy 45 (fun K hK => ?_)
     go_simp
     refine (HD.out _).mono ?_
     rintro e wz ⟨rfl, rfl⟩
     refine hK.out _ _ trivial ?_
     clear hK K hHeld
     intro hHeld
     (try simp only [sps])
     refine tk 46 ?_
     (try simp only [sps])
     refine tk 47 ?_
     (try simp only [sps])
     refine rdy 55 (fun K hK => ?_)
     go_simp
     refine (HA.out _).mono ?_
     rintro e wz ⟨rfl, rfl⟩
     refine hK.out _ _ trivial ?_
     clear hK K hHeld
     intro hHeld
     (try simp only [sps])
     refine tk 56 ?_
     (try simp only [sps])
     refine tk 57 ?_
     (try simp only [sps])
     refine rdy 58 (fun K hK => ?_)
     go_simp
     refine hK.out _ _ trivial ?_
     clear hK K hHeld
     intro hHeld
     (try simp only [sps])
     refine tk 59 ?_
     (try simp only [sps])
     refine wpAnyH_done (by kernel_rfl) ?_ _
     (try simp only [sps])
     go_wp2_with fail
     exact bodyPost_ret (v := .slice (some ⟨_, 0, none⟩) 12 12) (by simp [results, Tryz.results117, go_sem]) rfl ⟨_, rfl, by simp, (by first | exact ((Below.refl _ _).drew.drew.drew.drew.drew.drew.alloc (Nat.le_refl _) _) | exact ((Below.refl _ _).drew.drew.drew.drew.drew.alloc (Nat.le_refl _) _)), (Blk.new _ _ _).eq_ (chk_eq (by decide) HKN.out (by simp) (by simp) (by simp [int_beq0]))⟩
   ·have hm1 : ¬ (m : Int) = 1 := by omega
    have hm1b : ((m : Int) == 1) = false := beq_eq_false_iff_ne.2 hm1
    by_cases hv1 : v = 1
    ·subst hv1
     refine wp_region_held_drew (S := (fun _ => True)) (by kernel_rfl) trivial (fun hHeld => ?_)
     refine tk 0 ?_
     (try simp only [sps])
     refine tk 1 ?_
     (try simp only [sps])
     refine tk 2 ?_
     (try simp only [sps])
     refine tk 3 ?_
     (try simp only [sps])
     refine tk 4 ?_
     (try simp only [sps])
     refine tk 5 ?_
     (try simp only [sps])
     refine tk 6 ?_
     (try simp only [sps])
     refine tk 7 ?_
     (try simp only [sps])
     refine tk 15 ?_
     (try simp only [sps])
     refine tk 24 ?_
     (try simp only [sps])
     refine tk 31 ?_
     (try simp only [sps])
     refine tk 32 ?_
     (try simp only [sps])
     refine tk 33 ?_
     (try simp only [sps])
     refine tk 34 ?_
     (try simp only [sps])
     refine tk 35 ?_
     (try simp only [sps])
     refine tk 36 ?_
     (try simp only [sps])
     refine tk 37 ?_
     (try simp only [sps])
     refine tk 38 ?_
     (try simp only [sps])
     refine tk 39 ?_
     (try simp only [sps])
     refine tk 40 ?_
     (try simp only [sps])
     refine tk 41 ?_
     (try simp only [sps])
     refine tk 42 ?_
     (try simp only [sps])
     refine tk 43 ?_
     (try simp only [sps])
     refine tk 44 ?_
     (try simp only [sps])
     refine tk 48 ?_
     (try simp only [sps])
     refine tk 49 ?_
     (try simp only [sps])
     refine tk 50 ?_
     (try simp only [sps])
     refine tk 51 ?_
     (try simp only [sps])
     refine tk 52 ?_
     (try simp only [sps])
     refine tk 53 ?_
     (try simp only [sps])
     refine tk 54 ?_
     (try simp only [sps])
     refine rdy 8 (fun K hK => ?_)
     go_simp
     refine (HP.out _).mono ?_
     rintro e wz ⟨rfl, rfl⟩
     refine hK.out _ _ trivial ?_
     clear hK K hHeld
     intro hHeld
     (try simp only [sps])
     refine tk 9 ?_
     (try simp only [sps])
     refine tk 10 ?_
     (try simp only [sps])
     refine tk 11 ?_
     (try simp only [sps])
     refine tk 12 ?_
     (try simp only [sps])
     refine tk 13 ?_
     (try simp only [sps])
     refine tk 14 ?_
     (try simp only [sps])
     refine tk 16 ?_
     (try simp only [sps])
     refine wpAnyH_take (i := 17) (v := undef) rfl (by kernel_rfl) (by kernel_rfl) (by kernel_rfl) (fun _ _ _ h => h) (Or.inr ⟨by kernel_rfl, rfl⟩) (by assumption) ?_
     (try simp only [sps])
     refine wpAnyH_take (i := 18) (v := undef) rfl (by kernel_rfl) (by kernel_rfl) (by kernel_rfl) (fun _ _ _ h => h) (Or.inr ⟨by kernel_rfl, rfl⟩) (by assumption) ?_
     (try simp only [sps])
     refine wpAnyH_take (i := 19) (v := undef) rfl (by kernel_rfl) (by kernel_rfl) (by kernel_rfl) (fun _ _ _ h => h) (Or.inr ⟨by kernel_rfl, rfl⟩) (by assumption) ?_
     (try simp only [sps])
     refine wpAnyH_ready (rs := [20]) (by kernel_rfl) (by simp) ?_
     refine AllReadyH.cons_no rfl (by kernel_rfl) trivial ?_ AllReadyH.nil
     (try simp only [sps])
     refine wpAnyH_take (i := 21) (v := undef) rfl (by kernel_rfl) (by kernel_rfl) (by kernel_rfl) (fun _ _ _ h => h) (Or.inr ⟨by kernel_rfl, rfl⟩) (by assumption) ?_
     (try simp only [sps])
     refine tk 22 ?_
     (try simp only [sps])
     refine tk 23 ?_
     (try simp only [sps])
     refine tk 25 ?_
     (try simp only [sps])
     refine wpAnyH_take (i := 26) (v := undef) rfl (by kernel_rfl) (by kernel_rfl) (by kernel_rfl) (fun _ _ _ h => h) (Or.inr ⟨by kernel_rfl, rfl⟩) (by assumption) ?_
     (try simp only [sps])
     refine wpAnyH_ready (rs := [27]) (by kernel_rfl) (by simp) ?_
     refine AllReadyH.cons_no rfl (by kernel_rfl) trivial ?_ AllReadyH.nil
     (try simp only [sps])
     refine wpAnyH_take (i := 28) (v := undef) rfl (by kernel_rfl) (by kernel_rfl) (by kernel_rfl) (fun _ _ _ h => h) (Or.inr ⟨by kernel_rfl, rfl⟩) (by assumption) ?_
     (try simp only [sps])
     refine tk 29 ?_
     (try simp only [sps])
     refine tk 30 ?_
     (try simp only [sps])
     refine rdy 45 (fun K hK => ?_)
     go_simp
     refine (HD.out _).mono ?_
     rintro e wz ⟨rfl, rfl⟩
     refine hK.out _ _ trivial ?_
     clear hK K hHeld
     intro hHeld
     (try simp only [sps])
     refine tk 46 ?_
     (try simp only [sps])
     refine tk 47 ?_
     (try simp only [sps])
     refine rdy 55 (fun K hK => ?_)
     go_simp
     refine (HA.out _).mono ?_
     rintro e wz ⟨rfl, rfl⟩
     refine hK.out _ _ trivial ?_
     clear hK K hHeld
     intro hHeld
     (try simp only [sps])
     refine tk 56 ?_
     (try simp only [sps])
     refine tk 57 ?_
     (try simp only [sps])
     refine rdy 58 (fun K hK => ?_)
     go_simp
     refine hK.out _ _ trivial ?_
     clear hK K hHeld
     intro hHeld
     (try simp only [sps])
     refine tk 59 ?_
     (try simp only [sps])
     refine wpAnyH_done (by kernel_rfl) ?_ _
     (try simp only [sps])
     go_wp2_with fail
     exact bodyPost_ret (v := .slice (some ⟨_, 0, none⟩) 12 12) (by simp [results, Tryz.results117, go_sem]) rfl ⟨_, rfl, by simp, (by first | exact ((Below.refl _ _).drew.drew.drew.drew.drew.drew.alloc (Nat.le_refl _) _) | exact ((Below.refl _ _).drew.drew.drew.drew.drew.alloc (Nat.le_refl _) _)), (Blk.new _ _ _).eq_ (chk_eq (by rw [Bool.eq_iff_iff, decide_eq_true_iff, decide_eq_true_iff]; omega) HKN.out (by rw [HV.out]; simp; omega) (by symm; rw [decide_eq_false_iff_not]; omega) (by symm; rw [decide_eq_false_iff_not]; omega))⟩
    ·have hv1I : ¬ (v : Int) = 1 := by omega
     have hv1b : ((v : Int) == 1) = false := beq_eq_false_iff_ne.2 hv1I
     refine wp_region_held_drew (S := (fun _ => True)) (by kernel_rfl) trivial (fun hHeld => ?_)
     refine tk 0 ?_
     (try simp only [sps])
     refine tk 1 ?_
     (try simp only [sps])
     refine tk 2 ?_
     (try simp only [sps])
     refine tk 3 ?_
     (try simp only [sps])
     refine tk 4 ?_
     (try simp only [sps])
     refine tk 5 ?_
     (try simp only [sps])
     refine tk 6 ?_
     (try simp only [sps])
     refine tk 7 ?_
     (try simp only [sps])
     refine tk 15 ?_
     (try simp only [sps])
     refine tk 24 ?_
     (try simp only [sps])
     refine tk 31 ?_
     (try simp only [sps])
     refine tk 32 ?_
     (try simp only [sps])
     refine tk 33 ?_
     (try simp only [sps])
     refine tk 34 ?_
     (try simp only [sps])
     refine tk 35 ?_
     (try simp only [sps])
     refine tk 36 ?_
     (try simp only [sps])
     refine tk 37 ?_
     (try simp only [sps])
     refine tk 38 ?_
     (try simp only [sps])
     refine tk 39 ?_
     (try simp only [sps])
     refine tk 40 ?_
     (try simp only [sps])
     refine tk 41 ?_
     (try simp only [sps])
     refine tk 42 ?_
     (try simp only [sps])
     refine tk 43 ?_
     (try simp only [sps])
     refine tk 44 ?_
     (try simp only [sps])
     refine tk 48 ?_
     (try simp only [sps])
     refine tk 49 ?_
     (try simp only [sps])
     refine tk 50 ?_
     (try simp only [sps])
     refine tk 51 ?_
     (try simp only [sps])
     refine tk 52 ?_
     (try simp only [sps])
     refine tk 53 ?_
     (try simp only [sps])
     refine tk 54 ?_
     (try simp only [sps])
     refine rdy 8 (fun K hK => ?_)
     go_simp
     refine (HP.out _).mono ?_
     rintro e wz ⟨rfl, rfl⟩
     refine hK.out _ _ trivial ?_
     clear hK K hHeld
     intro hHeld
     (try simp only [sps])
     refine tk 9 ?_
     (try simp only [sps])
     refine tk 10 ?_
     (try simp only [sps])
     refine wpAnyH_take (i := 11) (v := undef) rfl (by kernel_rfl) (by kernel_rfl) (by kernel_rfl) (fun _ _ _ h => h) (Or.inr ⟨by kernel_rfl, rfl⟩) (by assumption) ?_
     (try simp only [sps])
     refine wpAnyH_take (i := 12) (v := undef) rfl (by kernel_rfl) (by kernel_rfl) (by kernel_rfl) (fun _ _ _ h => h) (Or.inr ⟨by kernel_rfl, rfl⟩) (by assumption) ?_
     (try simp only [sps])
     refine tk 13 ?_
     (try simp only [sps])
     refine tk 14 ?_
     (try simp only [sps])
     refine tk 16 ?_
     (try simp only [sps])
     refine wpAnyH_take (i := 17) (v := undef) rfl (by kernel_rfl) (by kernel_rfl) (by kernel_rfl) (fun _ _ _ h => h) (Or.inr ⟨by kernel_rfl, rfl⟩) (by assumption) ?_
     (try simp only [sps])
     refine wpAnyH_take (i := 18) (v := undef) rfl (by kernel_rfl) (by kernel_rfl) (by kernel_rfl) (fun _ _ _ h => h) (Or.inr ⟨by kernel_rfl, rfl⟩) (by assumption) ?_
     (try simp only [sps])
     refine wpAnyH_take (i := 19) (v := undef) rfl (by kernel_rfl) (by kernel_rfl) (by kernel_rfl) (fun _ _ _ h => h) (Or.inr ⟨by kernel_rfl, rfl⟩) (by assumption) ?_
     (try simp only [sps])
     refine wpAnyH_ready (rs := [20]) (by kernel_rfl) (by simp) ?_
     refine AllReadyH.cons_no rfl (by kernel_rfl) trivial ?_ AllReadyH.nil
     (try simp only [sps])
     refine wpAnyH_take (i := 21) (v := undef) rfl (by kernel_rfl) (by kernel_rfl) (by kernel_rfl) (fun _ _ _ h => h) (Or.inr ⟨by kernel_rfl, rfl⟩) (by assumption) ?_
     (try simp only [sps])
     refine tk 22 ?_
     (try simp only [sps])
     refine tk 23 ?_
     (try simp only [sps])
     refine tk 25 ?_
     (try simp only [sps])
     refine wpAnyH_take (i := 26) (v := undef) rfl (by kernel_rfl) (by kernel_rfl) (by kernel_rfl) (fun _ _ _ h => h) (Or.inr ⟨by kernel_rfl, rfl⟩) (by assumption) ?_
     (try simp only [sps])
     refine wpAnyH_ready (rs := [27]) (by kernel_rfl) (by simp) ?_
     refine AllReadyH.cons_no rfl (by kernel_rfl) trivial ?_ AllReadyH.nil
     (try simp only [sps])
     refine wpAnyH_take (i := 28) (v := undef) rfl (by kernel_rfl) (by kernel_rfl) (by kernel_rfl) (fun _ _ _ h => h) (Or.inr ⟨by kernel_rfl, rfl⟩) (by assumption) ?_
     (try simp only [sps])
     refine tk 29 ?_
     (try simp only [sps])
     refine tk 30 ?_
     (try simp only [sps])
     refine rdy 45 (fun K hK => ?_)
     go_simp
     refine (HD.out _).mono ?_
     rintro e wz ⟨rfl, rfl⟩
     refine hK.out _ _ trivial ?_
     clear hK K hHeld
     intro hHeld
     (try simp only [sps])
     refine tk 46 ?_
     (try simp only [sps])
     refine tk 47 ?_
     (try simp only [sps])
     refine rdy 55 (fun K hK => ?_)
     go_simp
     refine (HA.out _).mono ?_
     rintro e wz ⟨rfl, rfl⟩
     refine hK.out _ _ trivial ?_
     clear hK K hHeld
     intro hHeld
     (try simp only [sps])
     refine tk 56 ?_
     (try simp only [sps])
     refine tk 57 ?_
     (try simp only [sps])
     refine rdy 58 (fun K hK => ?_)
     go_simp
     refine hK.out _ _ trivial ?_
     clear hK K hHeld
     intro hHeld
     (try simp only [sps])
     refine tk 59 ?_
     (try simp only [sps])
     refine wpAnyH_done (by kernel_rfl) ?_ _
     (try simp only [sps])
     go_wp2_with fail
     exact bodyPost_ret (v := .slice (some ⟨_, 0, none⟩) 12 12) (by simp [results, Tryz.results117, go_sem]) rfl ⟨_, rfl, by simp, (by first | exact ((Below.refl _ _).drew.drew.drew.drew.drew.drew.alloc (Nat.le_refl _) _) | exact ((Below.refl _ _).drew.drew.drew.drew.drew.alloc (Nat.le_refl _) _)), (Blk.new _ _ _).eq_ (chk_eq (by rw [Bool.eq_iff_iff, decide_eq_true_iff, decide_eq_true_iff]; omega) HKN.out (by symm; rw [decide_eq_false_iff_not, HV.out]; omega) (by symm; rw [decide_eq_false_iff_not]; omega) (by symm; rw [decide_eq_false_iff_not]; omega))⟩
end Go.Proofs.YtlehkgkomjojmaaGreat
