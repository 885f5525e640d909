/- The law BufPlays. -/
import Derived.Test.YtegoakfhadmblaaBufAny
import Derived.Test.YtegoakfhadmblaaOpenBuf
namespace Go.Proofs.Ytegoakfhadmblaa
open Go.RowKit
set_option linter.unusedVariables false
set_option linter.unusedSimpArgs false

theorem lb_new : Led.new 0 0 100 0 = LB 0 0 := rfl
theorem lb_take {n : Int} (h0 : 0 ≤ n) (h : n ≤ 100) : (LB 0 0).take n = (LB n n, true) := by
  unfold Led.take LB
  rw [if_neg (by simp), if_neg (by simp; omega)]
  simp only [Int.zero_add]
  congr 2
  all_goals first | rfl | omega | (simp; omega)
theorem lb_bytes {k p : Int} : (LB k p).bytes = k := rfl
theorem bufLen_st {w : World} {b g d : Nat} {s : ByteArray} {o : Bool} {k p : Int} (h : BSt w b g d s o k p) :
    Calls Try.prog 39 #[.pointer (some ⟨b, 0, none⟩)] w fun e w' => e = .returned (.int .i64 (s.size : Int)) ∧ w = w' := by
  cases o
  · have := h.se rfl
    subst this
    exact bufLen_off (h.Mf rfl)
  · rw [size_list]
    exact bufLen_at (h.Mo rfl)
/-- what holds at each round's head -/
structure PlayI (w0 w : World) (xb b g d : Nat) (s : ByteArray) (o : Bool) (k p : Int) : Prop where
  S : BSt w b g d s o k p
  X : SB w xb s o k
  B : Below w0.heap.size w0 w
set_option maxRecDepth 100000 in
set_option maxHeartbeats 4000000 in
theorem plays_rest (w : World) (A : Option Addr) (n cap : Nat) (l : List OpY) (hl : SliceY w A n l) (kk : Nat) (hkk : kk < 40) (a0 : Int) (ha : 0 ≤ a0 ∧ a0 ≤ 255) (hkk1 : a0 % 40 = (kk : Int)) (hkk2 : Int.tmod a0 40 = (kk : Int)) :
    Calls Try.prog 7 #[.int .u8 a0, .slice A n cap] w fun e w' => e = .returned (.bool true) ∧ Below w.heap.size w w' := by
  have HL := Lib.hid hl
  obtain ⟨s0, hs0⟩ : ∃ s0, s0 = strOf (List.replicate kk 0) := ⟨_, rfl⟩
  have HSA : Hid (∀ w : World, Calls Try.prog 36 #[.int .u8 0, .int .i64 (kk : Int)] w fun e w' => e = .returned (.string s0) ∧ Below w.heap.size w w') := Lib.hid (fun w => by rw [hs0]; exact refSame_zero kk w (by omega))
  have HS0 : Hid (s0.data.toList = List.replicate kk 0 ∧ s0.size = kk) := Lib.hid ⟨by rw [hs0, strOf_toList], by rw [hs0, strOf_size, List.length_replicate]⟩
  clear hl hs0
  go_enter Try.func7, Try.ntmps7
  go_wp2_with (first
    | (go_at_call 15; refine (ledNew_at lb_new _).mono ?_; rintro e w0 ⟨g, rfl, hgB, h0, b0⟩)
    | (go_at_call 35; refine (bufMake_yes (n := kk) h0 (LB.ok (by omega) (by omega) (by omega)) (lb_take (by omega) (by omega)) (by omega)).mono ?_; rintro e w1 ⟨b, d, rfl, m1, l1, hbB, hdB, t1⟩)
    | (go_at_call 36; refine (HSA.out _).mono ?_; rintro e w2 ⟨rfl, b2⟩))
  have B2 : Below w.heap.size w w2 := below_next (Turn.belowNext b0 t1 (by simp; omega) b0.size) b2
  have hsz0 := b0.size
  have hsz2 := B2.size
  have S2 : BSt w2 b g d s0 true (kk : Int) (kk : Int) := BSt.below ⟨fun _ => by rw [HS0.out.1]; exact m1, fun e => absurd e (by decide), l1, by rw [HS0.out.2]; omega, by omega, by omega, by omega, fun _ => by rw [HS0.out.2], fun e => absurd e (by decide)⟩ b2
  have hbx : b < w2.heap.size := Blk.lt (S2.Mo rfl).blk
  have hdx : d < w2.heap.size := Blk.lt (S2.Mo rfl).row
  have hgx : g < w2.heap.size := Blk.lt S2.L
  have hbB' : w.heap.size ≤ b := by omega
  have hdB' : w.heap.size ≤ d := by omega
  have P2 : PlayI w (w2.alloc (.cells #[.string s0, .bool true, .int .i64 (kk : Int)] 67)) w2.heap.size b g d s0 true (kk : Int) (kk : Int) := ⟨S2.alloc _, Blk.new _ _ _, B2.alloc hsz2 _⟩
  have HP2 := Lib.hid P2
  clear m1 l1 t1 h0 b0 b2 B2 S2 P2 hbB hdB
  generalize w2.heap.size = xb at HP2 hbx hdx hgx hsz2 ⊢
  go_loopg [10] n (fun m iv wr => ∃ (q : Nat) (s : ByteArray) (o : Bool) (k : Int), q + m = n ∧ q ≤ 80 ∧ iv = .int .i64 (q : Int) ∧ PlayI w wr xb b g d s o k (kk : Int))
  case atStart => exact ⟨0, s0, true, (kk : Int), by omega, by omega, rfl, HP2.out⟩
  case round =>
    obtain ⟨q, s, o, k, hq, hq80, rfl, hp⟩ := hrel
    have HP := Lib.hid hp
    clear HP2
    by_cases hlt : q < n ∧ q < 80
    · obtain ⟨hqn, hq1⟩ := hlt
      obtain rfl | ⟨ob, off, rfl, hmax, hll, hcell⟩ := HL.out
      · omega
      obtain ⟨hfit, c0, c1, c2, c3, c4⟩ := hcell q hqn
      have hobB : ob < w.heap.size := World.block_lt_of_cell? w _ c0
      have x0 := (hp.B.cell (p := ⟨ob, off + q * 5, none⟩) hobB).trans c0
      have x1 := (hp.B.cell (p := ⟨ob, off + q * 5 + 1, none⟩) hobB).trans c1
      have x2 := (hp.B.cell (p := ⟨ob, off + q * 5 + 2, none⟩) hobB).trans c2
      have x3 := (hp.B.cell (p := ⟨ob, off + q * 5 + 3, none⟩) hobB).trans c3
      have x4 := (hp.B.cell (p := ⟨ob, off + q * 5 + 4, none⟩) hobB).trans c4
      have hltI : (q : Int) < n := by omega
      have hltI' : (q : Int) < 80 := by omega
      clear hcell c0 c1 c2 c3 c4 hll
      obtain ⟨fK, fI, fN, fV, fS⟩ := hfit
      generalize (l.getD q noOpY).K = oK at fK x0
      generalize (l.getD q noOpY).I = oI at fI x1
      generalize (l.getD q noOpY).N = oN at fN x2
      generalize (l.getD q noOpY).V = oV at fV x3
      generalize (l.getD q noOpY).S = oS at fS x4
      by_cases hS : oS.size ≤ 100
      · have hSI : ¬ (100 : Int) < (oS.size : Int) := by omega
        have FI : Hid (fitI oI) := Lib.hid fI
        have FN : Hid (fitI oN) := Lib.hid fN
        have FV := Lib.hid fV
        have s0' : wr.cell? ⟨xb, 0, none⟩ = some (.string s) := SB.c0 hp.X
        have s1' : wr.cell? ⟨xb, 1, none⟩ = some (.bool o) := SB.c1 hp.X
        have s2' : wr.cell? ⟨xb, 2, none⟩ = some (.int .i64 k) := SB.c2 hp.X
        have hxw := Blk.lt hp.X
        have hobw : ob < wr.heap.size := Nat.lt_of_lt_of_le hobB hp.B.size
        have nob := Nat.ne_of_lt hobw
        have nxw := Nat.ne_of_lt hxw
        have hbw : b < wr.heap.size := by omega
        have hgw : g < wr.heap.size := by omega
        have hdw : d < wr.heap.size := by omega
        clear hp fK fI fN fV fS
        go_wp2_with fail
        go_cut [11, 12] (fun yv okv wc => ∃ (yb : Nat) (s' : ByteArray) (o' : Bool) (k' : Int), yv = .pointer (some ⟨yb, 0, none⟩) ∧ okv = .bool true ∧ wr.heap.size ≤ yb ∧ SB wc yb s' o' k' ∧ SB wc xb s o k ∧ BSt wc b g d s' o' k' (kk : Int) ∧ Below w.heap.size w wc)
        case first =>
          go_region_with (go_at_call 38; first
            | (refine (one_any (HP.out.S.drew) FI.out FN.out FV.out hS hbw hgw hdw).mono ?_; rintro e w4 ⟨s', o', k', rfl, q4, t4⟩; have gA := trivial)
            | (refine (one_any (HP.out.S.alloc _).drew FI.out FN.out FV.out hS (by simp; omega) (by simp; omega) (by simp; omega)).mono ?_; rintro e w4 ⟨s', o', k', rfl, q4, t4⟩; have gB := trivial; have Y4 : SB w4 wr.heap.size ⟨#[]⟩ false 0 := Blk.turn (Blk.drew (Blk.new wr _ _)) t4 (not3 (by omega) (by omega) (by omega)); have u0 := SB.c0 Y4; have u1 := SB.c1 Y4; have u2 := SB.c2 Y4; have zu0 := Blk.frozen Y4 0; have zu1 := Blk.frozen Y4 1; have zu2 := Blk.frozen Y4 2; have lu := Blk.lt Y4))
          all_goals go_wp2_with fail
          all_goals
            go_meet
            case rel => first
              | (have := gA; exact ⟨w4.heap.size, s', o', k', rfl, rfl, t4.size, Blk.new _ _ _, Blk.alloc (Blk.turn (Blk.drew HP.out.X) t4 (not3 (by omega) (by omega) (by omega))) _, q4.alloc _, (Turn.belowNext HP.out.B.drew t4 (by simp; omega) HP.out.B.size).alloc (Nat.le_trans HP.out.B.size t4.size) _⟩)
              | (have := gB; exact ⟨wr.heap.size, s', o', k', rfl, rfl, Nat.le_refl _, SB.store Y4, Blk.st3 (Blk.turn (Blk.drew (Blk.alloc HP.out.X _)) t4 (not3 (by omega) (by omega) (by omega))) (by omega), q4.st3 (by omega) (by omega) (by omega) s' o' k', Below.st3 (Turn.belowNext (HP.out.B.alloc HP.out.B.size _).drew t4 (by simp; omega) (by have := HP.out.B.size; simp; omega)) HP.out.B.size⟩)
        case rest =>
          obtain ⟨yb, s', o', k', rfl, rfl, hyb, hY, hX, hS4, hB4⟩ := hcut
          have HY := Lib.hid hY
          have HX := Lib.hid hX
          have HS4 := Lib.hid hS4
          have HB4 := Lib.hid hB4
          have v0 : wc.cell? ⟨yb, 0, none⟩ = some (.string s') := SB.c0 hY
          have v1 : wc.cell? ⟨yb, 1, none⟩ = some (.bool o') := SB.c1 hY
          have v2 : wc.cell? ⟨yb, 2, none⟩ = some (.int .i64 k') := SB.c2 hY
          have g0 : wc.cell? ⟨xb, 0, none⟩ = some (.string s) := SB.c0 hX
          have g1 : wc.cell? ⟨xb, 1, none⟩ = some (.bool o) := SB.c1 hX
          have g2 : wc.cell? ⟨xb, 2, none⟩ = some (.int .i64 k) := SB.c2 hX
          have z0 := Blk.frozen hX 0
          have z1 := Blk.frozen hX 1
          have z2 := Blk.frozen hX 2
          have lxx := Blk.lt hX
          clear hY hX hS4 hB4 s0' s1' s2' x0 x1 x2 x3 x4
          go_wp2_with fail
          have X9 : SB (st3 wc xb s' o' k') xb s' o' k' := SB.store HX.out
          have S9 : BSt (st3 wc xb s' o' k') b g d s' o' k' (kk : Int) := HS4.out.st3 (by omega) (by omega) (by omega) s' o' k'
          have B9 : Below w.heap.size w (st3 wc xb s' o' k') := Below.st3 HB4.out hsz2
          change Code.wp _ _ _ _ (st3 wc xb s' o' k')
          generalize (st3 wc xb s' o' k') = wq at X9 S9 B9 ⊢
          clear v0 v1 v2 g0 g1 g2 z0 z1 z2 lxx
          have e0 : wq.cell? ⟨xb, 0, none⟩ = some (.string s') := SB.c0 X9
          have e1 : wq.cell? ⟨xb, 1, none⟩ = some (.bool o') := SB.c1 X9
          have e2 : wq.cell? ⟨xb, 2, none⟩ = some (.int .i64 k') := SB.c2 X9
          have HX9 := Lib.hid X9
          have HS9 := Lib.hid S9
          have HB9 := Lib.hid B9
          clear X9 S9 B9
          go_quiet ((first | (go_at_call 39; exact Calls.quiet_of_same ((bufLen_st (g := g) (d := d) (s := s') (o := o') (k := k') (p := (kk : Int)) (by first | exact HS9.out | exact HS9.out.drew | exact HS9.out.drewN _)).mono fun _ _ ⟨h, k⟩ => ⟨h, k.symm⟩)) | (go_at_call 27; exact Calls.quiet_of_same ((bytes_at (x := LB k' (kk : Int)) (p := k') (by exact HS9.out.L) rfl).mono fun _ _ ⟨h, k⟩ => ⟨h, k.symm⟩))))
          go_wp2_with fail
          go_roundg (n - (q + 1))
          case measure => omega
          case rel => exact ⟨q + 1, s', o', k', by omega, by omega, by go_num, ⟨HS9.out.drewN _, Blk.drewN HX9.out _, below_drewN HB9.out _⟩⟩
      · have hSI : (100 : Int) < (oS.size : Int) := by omega
        clear hp
        go_wp2_with (go_at_call 37; refine (awake04_any _).mono ?_; rintro e w5 ⟨rfl, b5⟩)
        go_ret
        exact ⟨rfl, below_next HP.out.B b5⟩
    · clear hp
      by_cases hqn : q < n
      · obtain rfl : q = 80 := by omega
        have hqI : ((80 : Nat) : Int) < (n : Int) := by omega
        go_wp2_with (go_at_call 37; refine (awake04_any _).mono ?_; rintro e w5 ⟨rfl, b5⟩)
        go_ret
        exact ⟨rfl, below_next HP.out.B b5⟩
      · have hqJ : ¬ (q : Int) < (n : Int) := by omega
        go_wp2_with (go_at_call 37; refine (awake04_any _).mono ?_; rintro e w5 ⟨rfl, b5⟩)
        go_ret
        exact ⟨rfl, below_next HP.out.B b5⟩
theorem bufPlays_said (w : World) (a0 : Int) (ha : (Lit.int .u8 a0).wf = true) (A : Option Addr) (n cap : Nat) (l : List OpY) (hl : SliceY w A n l) :
    Calls Try.prog 7 #[.int .u8 a0, .slice A n cap] w fun e w' => e = .returned (.bool true) ∧ Below w.heap.size w w' := by
  have hb := bounds_u8 ha
  exact plays_rest w A n cap l hl (a0 % 40).toNat (by omega) a0 hb (by omega) (by rw [Int.tmod_eq_emod_of_nonneg hb.1]; omega)
end Go.Proofs.Ytegoakfhadmblaa
