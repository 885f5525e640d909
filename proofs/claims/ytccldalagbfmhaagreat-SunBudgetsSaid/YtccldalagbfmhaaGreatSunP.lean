/- The document's head of a file of Sun's. The document's head of a file of Sun's, behind its sign. -/
import Derived.Test.YtccldalagbfmhaaGreatSunA
import Derived.Test.YtccldalagbfmhaaGreatRasImg7
import Derived.Test.YtccldalagbfmhaaGreatFfRef
namespace Go.Proofs.YtccldalagbfmhaaGreat
open Go.RowKit
set_option linter.unusedVariables false
set_option linter.unusedSimpArgs false

def hd7 (W H b t n k a : Int) : Array Value := #[.int .i64 W, .int .i64 H, .int .i64 b, .int .i64 t, .int .i64 n, .int .i64 k, .int .i64 a]
/-- what the document tells of a head -/
def hdV (W H b t n k a : Int) : Value := .agg (hd7 W H b t n k a)
theorem refSunBad (k a : Int) (w : World) : Calls Tryz.prog 135 #[.int .i64 k, .int .i64 a] w fun e w' => e = .returned (hdV 0 0 0 0 0 k a) ∧ Below w.heap.size w w' := by
  go_enter Tryz.func135, Tryz.ntmps135
  go_wp2_with fail
  exact bodyPost_ret (v := hdV 0 0 0 0 0 k a) (by simp [results, Tryz.results135, go_sem, hdV, hd7]) rfl ⟨rfl, (Below.refl _ _).alloc (Nat.le_refl _) _⟩
/-- the box of a head that is not told yet -/
structure H7 (w0 w : World) (b : Nat) : Prop where
  P : Blk w b 93 (hd7 0 0 0 0 0 0 0)
  B : Below w0.heap.size w0 w
  n : w0.heap.size ≤ b
section
variable {w0 w w' : World} {b : Nat}
theorem H7.new (w : World) : H7 w (w.alloc (.cells #[.int .i64 0, .int .i64 0, .int .i64 0, .int .i64 0, .int .i64 0, .int .i64 0, .int .i64 0] 93)) w.heap.size := ⟨Blk.new _ _ _, (Below.refl _ _).alloc (Nat.le_refl _) _, Nat.le_refl _⟩
theorem H7.below (h : H7 w0 w b) (k : Below w.heap.size w w') : H7 w0 w' b := ⟨Blk.below h.P k (Blk.lt h.P), below_next h.B k, h.n⟩
theorem H7.drew (h : H7 w0 w b) : H7 w0 w.drew b := ⟨Blk.drew h.P, h.B.drew, h.n⟩
theorem H7.all (h : H7 w0 w b) : w.cell? ⟨b, 0, none⟩ = some (.int .i64 0) ∧ w.cell? ⟨b, 1, none⟩ = some (.int .i64 0) ∧ w.cell? ⟨b, 2, none⟩ = some (.int .i64 0) ∧ w.cell? ⟨b, 3, none⟩ = some (.int .i64 0) ∧ w.cell? ⟨b, 4, none⟩ = some (.int .i64 0) ∧ w.cell? ⟨b, 5, none⟩ = some (.int .i64 0) ∧ w.cell? ⟨b, 6, none⟩ = some (.int .i64 0) ∧ w.frozen? ⟨b, 0, none⟩ = false ∧ w.frozen? ⟨b, 1, none⟩ = false ∧ w.frozen? ⟨b, 2, none⟩ = false ∧ w.frozen? ⟨b, 3, none⟩ = false ∧ w.frozen? ⟨b, 4, none⟩ = false ∧ w.frozen? ⟨b, 5, none⟩ = false ∧ w.frozen? ⟨b, 6, none⟩ = false ∧ b < w.heap.size :=
  ⟨Blk.cell h.P 0, Blk.cell h.P 1, Blk.cell h.P 2, Blk.cell h.P 3, Blk.cell h.P 4, Blk.cell h.P 5, Blk.cell h.P 6, Blk.frozen h.P 0, Blk.frozen h.P 1, Blk.frozen h.P 2, Blk.frozen h.P 3, Blk.frozen h.P 4, Blk.frozen h.P 5, Blk.frozen h.P 6, Blk.lt h.P⟩
theorem H7.store (h : H7 w0 w b) {u0 u1 u2 u3 u4 u5 u6 : Value} : Below w0.heap.size w0 (((((((w.setCell ⟨b, 0, none⟩ u0).setCell ⟨b, 1, none⟩ u1).setCell ⟨b, 2, none⟩ u2).setCell ⟨b, 3, none⟩ u3).setCell ⟨b, 4, none⟩ u4).setCell ⟨b, 5, none⟩ u5).setCell ⟨b, 6, none⟩ u6) := below_set (below_set (below_set (below_set (below_set (below_set (below_set h.B h.n) h.n) h.n) h.n) h.n) h.n) h.n
end
theorem refSunRead_short {s : ByteArray} (h : s.size < 32) (w : World) : Calls Tryz.prog 58 #[.string s] w fun e w' => e = .returned (hdV 0 0 0 0 0 1 (s.size : Int)) ∧ Below w.heap.size w w' := by
  have hI : (s.size : Int) < 32 := by omega
  have H0 := Lib.hid (H7.new w)
  go_enter Tryz.func58, Tryz.ntmps58
  go_wp2_with (go_at_call 135; refine (refSunBad _ _ _).mono ?_; rintro e w1 ⟨rfl, b1⟩; have H1 := H0.out.below b1; simp only [hdV, hd7]; obtain ⟨c0, c1, c2, c3, c4, c5, c6, z0, z1, z2, z3, z4, z5, z6, zl⟩ := H1.all)
  exact bodyPost_ret (v := hdV 0 0 0 0 0 1 (s.size : Int)) (by simp [results, Tryz.results58, go_sem, hdV, hd7, c0, c1, c2, c3, c4, c5, c6]) rfl ⟨rfl, H1.store⟩
set_option maxRecDepth 100000 in
set_option maxHeartbeats 1000000 in
theorem refSunRead_word {s : ByteArray} {i : Nat} (h : 32 ≤ s.size) (hsm : s.size ≤ 1099511627776) (hi : i < 4) (o : Off s sunW 0 4 i) (w : World) : Calls Tryz.prog 58 #[.string s] w fun e w' => e = .returned (hdV 0 0 0 0 0 2 (i : Int)) ∧ Below w.heap.size w w' := by
  have hI : ¬ (s.size : Int) < 32 := by omega
  have H0 := Lib.hid (H7.new w)
  go_enter Tryz.func58, Tryz.ntmps58
  go_wp2_with fail
  go_loopg [4] 4 (fun m k wr => ∃ j : Nat, j + m = 4 ∧ j ≤ i ∧ k = .int .i64 (j : Int) ∧ H7 w wr w.heap.size)
  case atStart => exact ⟨0, by omega, by omega, rfl, H0.out⟩
  case round =>
    obtain ⟨j, hj, hji, rfl, p1⟩ := hrel
    have P1 := Lib.hid p1
    have hlt : (j : Int) < 4 := by omega
    have hjs : (j : Int) < (s.size : Int) := by omega
    have hjs' : j < s.size := by omega
    have hlit := sunWb_at (j := j) (by omega)
    have hbat := bat_eq hjs'
    obtain ⟨c, hc⟩ : ∃ c, sunW.getD j 0 = c := ⟨_, rfl⟩
    rw [hc] at hlit
    by_cases he : j = i
    · subst he
      have hne : ((s[j].toNat : Nat) : Int) ≠ (c : Int) := by
        have := o.stop (by omega)
        rw [hbat, hc] at this
        omega
      clear hbat p1
      go_wp2_with fail
      go_region
      go_wp2_with (go_at_call 135; refine (refSunBad _ _ _).mono ?_; rintro e w1 ⟨rfl, b1⟩; have H1 := P1.out.drew.below b1; simp only [hdV, hd7]; obtain ⟨c0, c1, c2, c3, c4, c5, c6, z0, z1, z2, z3, z4, z5, z6, zl⟩ := H1.all)
      exact bodyPost_ret (v := hdV 0 0 0 0 0 2 (j : Int)) (by simp [results, Tryz.results58, go_sem, hdV, hd7, c0, c1, c2, c3, c4, c5, c6]) rfl ⟨rfl, H1.store⟩
    · have heq : ((s[j].toNat : Nat) : Int) = (c : Int) := by
        have := o.same j (by omega) (by omega)
        rw [hbat, hc] at this
        omega
      clear hbat p1
      go_wp2_with fail
      go_region
      go_wp2_with fail
      go_roundg (4 - (j + 1))
      case measure => omega
      case rel => exact ⟨j + 1, by omega, by omega, by go_num, P1.out.drew⟩
end Go.Proofs.YtccldalagbfmhaaGreat
namespace Go.Proofs.YtccldalagbfmhaaGreat
open Go.RowKit
set_option linter.unusedVariables false
set_option linter.unusedSimpArgs false

theorem infoInt : (Tryz.prog.info? 3).map (fun i => (i.zero, i.size, i.bytes)) = some (some (.int .i64 0), 1, 8) := by kernel_rfl
theorem Owns1.empty {w : World} {base : Nat} {e : TypeId} (h : base ≤ w.heap.size) : Owns1 (w.alloc (.cells #[] e)) base e (.slice (some ⟨w.heap.size, 0, none⟩) 0 0) [] :=
  World.ownsRow_lit w #[] 0 h (by unfold maxLen; omega) (by simp)
theorem Blk.grownO {w w' : World} {g base : Nat} {t e : TypeId} {cs : Array Value} {v : Value} {l : List Value} (h : Blk w g t cs) (o : Owns1 w base e v l) (hne : t ≠ e) (hg : w.grownBy w' v.ownBlock) : Blk w' g t cs := by
  refine h.grown hg fun he => ?_
  rcases o.2 with ⟨rfl, _⟩ | ⟨r, cap, cur, rfl, _, hr, _⟩
  · cases he
  · simp only [Value.ownBlock, Option.some.injEq] at he
    subst he
    exact Blk.ne_ h hr hne rfl
/-- the list of a head's numbers -/
def LN7 (w : World) (g W H d t mk mb : Nat) : Prop := w.cell? ⟨g, 1, none⟩ = some (.int .i64 (W : Int)) ∧ w.cell? ⟨g, 2, none⟩ = some (.int .i64 (H : Int)) ∧ w.cell? ⟨g, 3, none⟩ = some (.int .i64 (d : Int)) ∧ w.cell? ⟨g, 5, none⟩ = some (.int .i64 (t : Int)) ∧ w.cell? ⟨g, 6, none⟩ = some (.int .i64 (mk : Int)) ∧ w.cell? ⟨g, 7, none⟩ = some (.int .i64 (mb : Int))
theorem LN7.drew {w : World} {g W H d t mk mb : Nat} (h : LN7 w g W H d t mk mb) : LN7 w.drew g W H d t mk mb := h
theorem cell_other {w : World} {g b k j : Nat} {u v : Value} (hne : g ≠ b) (h : w.cell? ⟨g, k, none⟩ = some u) : (w.setCell ⟨b, j, none⟩ v).cell? ⟨g, k, none⟩ = some u := by
  rw [World.cell?_setCell_other _ _ _ _ (by simp [hne])]; exact h
theorem LN7.set {w : World} {g b j W H d t mk mb : Nat} {v : Value} (hne : g ≠ b) (h : LN7 w g W H d t mk mb) : LN7 (w.setCell ⟨b, j, none⟩ v) g W H d t mk mb :=
  ⟨cell_other hne h.1, cell_other hne h.2.1, cell_other hne h.2.2.1, cell_other hne h.2.2.2.1, cell_other hne h.2.2.2.2.1, cell_other hne h.2.2.2.2.2⟩
theorem LN7.set7 {w : World} {g b W H d t mk mb : Nat} {u0 u1 u2 u3 u4 u5 u6 : Value} (hne : g ≠ b) (h : LN7 w g W H d t mk mb) : LN7 (((((((w.setCell ⟨b, 0, none⟩ u0).setCell ⟨b, 1, none⟩ u1).setCell ⟨b, 2, none⟩ u2).setCell ⟨b, 3, none⟩ u3).setCell ⟨b, 4, none⟩ u4).setCell ⟨b, 5, none⟩ u5).setCell ⟨b, 6, none⟩ u6) g W H d t mk mb := (((((((h.set hne).set hne).set hne).set hne).set hne).set hne).set hne)
theorem Blk.neO {w : World} {b base g : Nat} {t e : TypeId} {cs : Array Value} {n c : Nat} {l : List Value} (h : Blk w b t cs) (o : Owns1 w base e (.slice (some ⟨g, 0, none⟩) n c) l) (hne : t ≠ e) : g ≠ b := by
  rcases o.2 with ⟨h0, _⟩ | ⟨r, cap, cur, hv, _, hr, _⟩
  · cases h0
  · obtain ⟨rfl⟩ : g = r := by injection hv with h1; injection h1 with h2; injection h2
    exact fun he => Blk.ne_ h hr hne he.symm
def numL (s : ByteArray) (i : Nat) : List Value := (List.range i).map fun k => .int .i64 (beN s (4 * k) 4 : Int)
theorem numL_succ (s : ByteArray) (i : Nat) : numL s (i + 1) = numL s i ++ [.int .i64 (beN s (4 * i) 4 : Int)] := by unfold numL; rw [List.range_succ, List.map_append]; rfl
theorem numL_len (s : ByteArray) (i : Nat) : (numL s i).length = i := by simp [numL]
theorem numL_at {s : ByteArray} {i k : Nat} (h : k < i) : (numL s i)[k]? = some (.int .i64 (beN s (4 * k) 4 : Int)) := by unfold numL; rw [List.getElem?_map, List.getElem?_range h]; rfl
/-- what a head is told as -/
def sunHdV (W H d t mk mb : Nat) : Value := match firstBad (sunChks W H d t mk mb) with | some f => hdV 0 0 0 0 0 (f.1 : Int) (f.2 : Int) | none => hdV (W : Int) (H : Int) (d : Int) (t : Int) ((mb / 3 : Nat) : Int) 0 0
set_option maxRecDepth 100000 in
set_option maxHeartbeats 16000000 in
theorem refSunRead_rest {s : ByteArray} {W H d t mk mb : Nat} (h : 32 ≤ s.size) (hsm : s.size ≤ 1099511627776) (o : Off s sunW 0 4 4) (eW : beN s 4 4 = W) (eH : beN s 8 4 = H) (ed : beN s 12 4 = d) (et : beN s 20 4 = t) (ek : beN s 24 4 = mk) (em : beN s 28 4 = mb) (w : World) : Calls Tryz.prog 58 #[.string s] w fun e w' => e = .returned (sunHdV W H d t mk mb) ∧ Below w.heap.size w w' := by
  have hI : ¬ (s.size : Int) < 32 := by omega
  have H0 := Lib.hid (H7.new w)
  have lt : ∀ {i v : Nat}, beN s i 4 = v → v < 4294967296 := fun e => e ▸ beN_lt s _ 4
  have lW := lt eW
  have lH := lt eH
  have ld := lt ed
  have lt' := lt et
  have lk := lt ek
  have lm := lt em
  have HSS := Lib.hid (And.intro h hsm)
  have HEQ := Lib.hid (And.intro eW (And.intro eH (And.intro ed (And.intro et (And.intro ek em)))))
  clear lt eW eH ed et ek em
  go_enter Tryz.func58, Tryz.ntmps58
  go_wp2_with fail
  go_loopg [4] 4 (fun m k wr => ∃ j : Nat, j + m = 4 ∧ k = .int .i64 (j : Int) ∧ H7 w wr w.heap.size)
  case atStart => exact ⟨0, by omega, rfl, H0.out⟩
  case round =>
    obtain ⟨j, hj, rfl, p1⟩ := hrel
    have P1 := Lib.hid p1
    by_cases hlt' : j < 4
    · have hlt : (j : Int) < 4 := by omega
      have hjs : (j : Int) < (s.size : Int) := by omega
      have hjs' : j < s.size := by omega
      have hlit := sunWb_at (j := j) (by omega)
      have hbat := bat_eq hjs'
      obtain ⟨c, hc⟩ : ∃ c, sunW.getD j 0 = c := ⟨_, rfl⟩
      rw [hc] at hlit
      have heq : ((s[j].toNat : Nat) : Int) = (c : Int) := by
        have := o.same j (by omega) (by omega)
        rw [hbat, hc] at this
        omega
      clear hbat p1
      go_wp2_with fail
      go_region
      go_wp2_with fail
      go_roundg (4 - (j + 1))
      case measure => omega
      case rel => exact ⟨j + 1, by omega, by go_num, P1.out.drew⟩
    · obtain rfl : j = 4 := by omega
      clear p1 H0
      go_upto_region 10 with fail
      have HO0 : Hid (Owns1 (wr.alloc (.cells #[] 3)) w.heap.size 3 (.slice (some ⟨wr.heap.size, 0, none⟩) 0 0) (numL s 0) ∧ H7 w (wr.alloc (.cells #[] 3)) w.heap.size) := Lib.hid ⟨Owns1.empty P1.out.B.size, P1.out.below ((Below.refl _ _).alloc (Nat.le_refl _) _)⟩
      generalize wr.alloc (.cells #[] 3) = w2 at HO0 ⊢
      generalize wr.heap.size = g0 at HO0 ⊢
      clear P1 hj hlt'
      go_wp2_with fail
      go_loopg [5, 6] 8 (fun m v5 v6 wr => ∃ i : Nat, i + m = 8 ∧ v6 = .int .i64 (i : Int) ∧ (∃ a c, v5 = .slice a i c) ∧ Hid (Owns1 wr w.heap.size 3 v5 (numL s i) ∧ H7 w wr w.heap.size))
      case atStart => exact ⟨0, rfl, rfl, ⟨_, _, rfl⟩, HO0⟩
      case round =>
        obtain ⟨i, hi, rfl, ⟨av, cv, rfl⟩, hP⟩ := hrel
        clear HO0
        by_cases hi8 : i < 8
        · have hi8I : (i : Int) < 8 := by omega
          obtain ⟨a4, ha4⟩ : ∃ a4, 4 * i = a4 := ⟨_, rfl⟩
          have q1 : 4 * (i : Int) = (a4 : Int) := by omega
          obtain ⟨e4, he4⟩ : ∃ e4, a4 + 4 = e4 := ⟨_, rfl⟩
          have q2 : (a4 : Int) + 4 = (e4 : Int) := by omega
          have q3 : (a4 : Int) ≤ 28 := by omega
          have q4 : a4 ≤ e4 ∧ e4 ≤ s.size := by have := HSS.out.1; omega
          have q5 : (e4 : Int) ≤ 32 := by omega
          have HBE := Lib.hid (fun w => refBe_at (s := s) (a := a4) (n := 4) (v := beN s a4 4) (by omega) (by decide) rfl w)
          rw [he4] at HBE
          have HA4 := Lib.hid ha4
          have hlen : (numL s i).length < 1099511627776 := by rw [numL_len]; omega
          clear ha4 he4
          go_wp2_with (first
            | (go_at_call 136; refine (HBE.out _).mono ?_; rintro e w3 ⟨rfl, rfl⟩; have o2 : Owns1 (wr.alloc (.cells #[.int .i64 (beN s a4 4 : Int)] 3)) w.heap.size 3 (.slice av i cv) (numL s i) := Owns1.alloc hP.out.1 _; have hc2 : (wr.alloc (.cells #[.int .i64 (beN s a4 4 : Int)] 3)).cell? ⟨wr.heap.size, 0, none⟩ = some (.int .i64 (beN s a4 4 : Int)) := cell_new _ _ _ 0 _ rfl; have hbs : w.heap.size ≤ (wr.alloc (.cells #[.int .i64 (beN s a4 4 : Int)] 3)).heap.size := Nat.le_trans hP.out.2.B.size (by simp))
            | (at_builtin; refine wpList_append_one rfl (.tmp 32) (.tmp 41) 126 3 rfl (.int .i64 0) 8 Tryz.underlying126 infoInt rfl (by decide) w.heap.size _ (numL s i) rfl o2 ⟨wr.heap.size, 0, none⟩ rfl (.int .i64 (beN s a4 4 : Int)) hc2 rfl hlen hbs ?_; intro v' w4 o3 b4 g4))
          have o4 : Owns1 w4 w.heap.size 3 v' (numL s (i + 1)) := by rw [numL_succ, HA4.out]; exact o3
          have H4 : H7 w w4 w.heap.size := ⟨Blk.grownO (Blk.alloc hP.out.2.P _) o2 (by decide) g4, (hP.out.2.B.alloc hP.out.2.B.size _).trans b4, hP.out.2.n⟩
          have hform : ∃ a c, v' = .slice a (i + 1) c := by
            rcases o4.form with ⟨rfl, h0⟩ | ⟨g', cap, rfl, _⟩
            · have := congrArg List.length h0; rw [numL_len] at this; simp at this
            · exact ⟨_, _, by rw [numL_len]⟩
          have HX := Lib.hid (And.intro o4 H4)
          clear o2 hc2 hbs o3 b4 g4 o4 H4
          go_roundg (8 - (i + 1))
          case measure => omega
          case rel => exact ⟨i + 1, by omega, by go_num, hform, HX⟩
        · obtain rfl : i = 8 := by omega
          rcases hP.out.1.form with ⟨_, h0⟩ | ⟨g, cap, hv, hg1, hg2, hc, hm, hcell⟩
          · have := congrArg List.length h0; rw [numL_len] at this; simp at this
          · obtain ⟨rfl, rfl⟩ : av = some ⟨g, 0, none⟩ ∧ cv = cap := by injection hv with h1 h2 h3; exact ⟨h1, h3⟩
            obtain ⟨eW, eH, ed, et, ek, em⟩ := HEQ.out
            have hgb : g ≠ w.heap.size := Blk.neO hP.out.2.P hP.out.1 (by decide)
            have C1 : wr.cell? ⟨g, 1, none⟩ = some (.int .i64 (W : Int)) := by rw [← eW]; exact (hcell 1 (by rw [numL_len]; decide)).trans (numL_at (by decide))
            have C2 : wr.cell? ⟨g, 2, none⟩ = some (.int .i64 (H : Int)) := by rw [← eH]; exact (hcell 2 (by rw [numL_len]; decide)).trans (numL_at (by decide))
            have C3 : wr.cell? ⟨g, 3, none⟩ = some (.int .i64 (d : Int)) := by rw [← ed]; exact (hcell 3 (by rw [numL_len]; decide)).trans (numL_at (by decide))
            have C5 : wr.cell? ⟨g, 5, none⟩ = some (.int .i64 (t : Int)) := by rw [← et]; exact (hcell 5 (by rw [numL_len]; decide)).trans (numL_at (by decide))
            have C6 : wr.cell? ⟨g, 6, none⟩ = some (.int .i64 (mk : Int)) := by rw [← ek]; exact (hcell 6 (by rw [numL_len]; decide)).trans (numL_at (by decide))
            have C7 : wr.cell? ⟨g, 7, none⟩ = some (.int .i64 (mb : Int)) := by rw [← em]; exact (hcell 7 (by rw [numL_len]; decide)).trans (numL_at (by decide))
            have HC := Lib.hid hP.out.2
            have HG : Hid (LN7 wr g W H d t mk mb ∧ H7 w wr w.heap.size) := Lib.hid ⟨⟨C1, C2, C3, C5, C6, C7⟩, hP.out.2⟩
            clear hP hcell hv hm hc hg1 eW eH ed et ek em hi8 hi o HEQ HSS C1 C2 C3 C5 C6 C7
            go_wp2_with fail
            go_loopg [7] 2 (fun k at' wr => ((k = 2 ∧ at' = .int .i64 1) ∨ (k = 1 ∧ at' = .int .i64 2 ∧ ¬ W = 0 ∧ ¬ 16384 < W) ∨ (k = 0 ∧ at' = .int .i64 3 ∧ ¬ W = 0 ∧ ¬ 16384 < W ∧ ¬ H = 0 ∧ ¬ 16384 < H)) ∧ LN7 wr g W H d t mk mb ∧ H7 w wr w.heap.size)
            case atStart => exact ⟨.inl ⟨rfl, rfl⟩, HG.out⟩
            case round =>
              clear HG
              obtain ⟨hk, hG⟩ := hrel
              obtain ⟨C1, C2, C3, C5, C6, C7⟩ := hG.1
              have HG := Lib.hid hG
              clear hG
              rcases hk with ⟨rfl, rfl⟩ | ⟨rfl, rfl, p1, p2⟩ | ⟨rfl, rfl, p1, p2, p3, p4⟩
              · clear C2 C3 C5 C6 C7
                by_cases q0 : W = 0
                · have q0' : (W : Int) = 0 := by omega
                  go_wp2_with (go_at_call 135; refine (refSunBad _ _ _).mono ?_; rintro e w1 ⟨rfl, b1⟩; have H1 := HG.out.2.below b1; simp only [hdV, hd7]; obtain ⟨c0, c1, c2, c3, c4, c5, c6, z0, z1, z2, z3, z4, z5, z6, zl⟩ := H1.all)
                  have H1' := Lib.hid H1
                  have hR : hdV 0 0 0 0 0 2 4 = sunHdV W H d t mk mb := by
                    have : firstBad (sunChks W H d t mk mb) = some (2, 4) := by simp [firstBad, sunChks, SunDepth, SunMapped, q0]
                    unfold sunHdV
                    rw [this]
                    rfl
                  exact bodyPost_ret (v := hdV 0 0 0 0 0 2 4) (by simp [results, Tryz.results58, go_sem, hdV, hd7, c0, c1, c2, c3, c4, c5, c6]) rfl ⟨ret1 hR, H1'.out.store⟩
                · have q0' : ¬ (W : Int) = 0 := by omega
                  by_cases q1 : 16384 < W
                  · have q1' : (16384 : Int) < (W : Int) := by omega
                    go_wp2_with (go_at_call 135; refine (refSunBad _ _ _).mono ?_; rintro e w1 ⟨rfl, b1⟩; have H1 := HG.out.2.below b1; simp only [hdV, hd7]; obtain ⟨c0, c1, c2, c3, c4, c5, c6, z0, z1, z2, z3, z4, z5, z6, zl⟩ := H1.all)
                    have H1' := Lib.hid H1
                    have hR : hdV 0 0 0 0 0 3 4 = sunHdV W H d t mk mb := by
                      have : firstBad (sunChks W H d t mk mb) = some (3, 4) := by simp [firstBad, sunChks, SunDepth, SunMapped, q0, q1]
                      unfold sunHdV
                      rw [this]
                      rfl
                    exact bodyPost_ret (v := hdV 0 0 0 0 0 3 4) (by simp [results, Tryz.results58, go_sem, hdV, hd7, c0, c1, c2, c3, c4, c5, c6]) rfl ⟨ret1 hR, H1'.out.store⟩
                  · have q1' : ¬ (16384 : Int) < (W : Int) := by omega
                    go_wp2_with fail
                    go_roundg 1
                    case measure => omega
                    case rel => exact ⟨.inr (.inl ⟨rfl, rfl, q0, q1⟩), HG.out⟩
              · clear C1 C3 C5 C6 C7
                by_cases q0 : H = 0
                · have q0' : (H : Int) = 0 := by omega
                  go_wp2_with (go_at_call 135; refine (refSunBad _ _ _).mono ?_; rintro e w1 ⟨rfl, b1⟩; have H1 := HG.out.2.below b1; simp only [hdV, hd7]; obtain ⟨c0, c1, c2, c3, c4, c5, c6, z0, z1, z2, z3, z4, z5, z6, zl⟩ := H1.all)
                  have H1' := Lib.hid H1
                  have hR : hdV 0 0 0 0 0 2 8 = sunHdV W H d t mk mb := by
                    have : firstBad (sunChks W H d t mk mb) = some (2, 8) := by simp [firstBad, sunChks, SunDepth, SunMapped, p1, p2, q0]
                    unfold sunHdV
                    rw [this]
                    rfl
                  exact bodyPost_ret (v := hdV 0 0 0 0 0 2 8) (by simp [results, Tryz.results58, go_sem, hdV, hd7, c0, c1, c2, c3, c4, c5, c6]) rfl ⟨ret1 hR, H1'.out.store⟩
                · have q0' : ¬ (H : Int) = 0 := by omega
                  by_cases q1 : 16384 < H
                  · have q1' : (16384 : Int) < (H : Int) := by omega
                    go_wp2_with (go_at_call 135; refine (refSunBad _ _ _).mono ?_; rintro e w1 ⟨rfl, b1⟩; have H1 := HG.out.2.below b1; simp only [hdV, hd7]; obtain ⟨c0, c1, c2, c3, c4, c5, c6, z0, z1, z2, z3, z4, z5, z6, zl⟩ := H1.all)
                    have H1' := Lib.hid H1
                    have hR : hdV 0 0 0 0 0 3 8 = sunHdV W H d t mk mb := by
                      have : firstBad (sunChks W H d t mk mb) = some (3, 8) := by simp [firstBad, sunChks, SunDepth, SunMapped, p1, p2, q0, q1]
                      unfold sunHdV
                      rw [this]
                      rfl
                    exact bodyPost_ret (v := hdV 0 0 0 0 0 3 8) (by simp [results, Tryz.results58, go_sem, hdV, hd7, c0, c1, c2, c3, c4, c5, c6]) rfl ⟨ret1 hR, H1'.out.store⟩
                  · have q1' : ¬ (16384 : Int) < (H : Int) := by omega
                    go_wp2_with fail
                    go_roundg 0
                    case measure => omega
                    case rel => exact ⟨.inr (.inr ⟨rfl, rfl, p1, p2, q0, q1⟩), HG.out⟩
              · by_cases hD : SunDepth d
                · rcases hD with rfl | rfl | rfl | rfl
                  ·
                    by_cases r0 : 3 < t
                    · have r0' : (3 : Int) < (t : Int) := by omega
                      go_wp2_with (go_at_call 135; refine (refSunBad _ _ _).mono ?_; rintro e w1 ⟨rfl, b1⟩; have H1 := HG.out.2.below b1; simp only [hdV, hd7]; obtain ⟨c0, c1, c2, c3, c4, c5, c6, z0, z1, z2, z3, z4, z5, z6, zl⟩ := H1.all)
                      have H1' := Lib.hid H1
                      have hR : hdV 0 0 0 0 0 3 20 = sunHdV W H 1 t mk mb := by
                        have : firstBad (sunChks W H 1 t mk mb) = some (3, 20) := by simp [firstBad, sunChks, SunDepth, SunMapped, p1, p2, p3, p4, r0]
                        unfold sunHdV
                        rw [this]
                        rfl
                      exact bodyPost_ret (v := hdV 0 0 0 0 0 3 20) (by simp [results, Tryz.results58, go_sem, hdV, hd7, c0, c1, c2, c3, c4, c5, c6]) rfl ⟨ret1 hR, H1'.out.store⟩
                    · have r0' : ¬ (3 : Int) < (t : Int) := by omega
                      by_cases r1 : 1 < mk
                      · have r1' : (1 : Int) < (mk : Int) := by omega
                        go_wp2_with (go_at_call 135; refine (refSunBad _ _ _).mono ?_; rintro e w1 ⟨rfl, b1⟩; have H1 := HG.out.2.below b1; simp only [hdV, hd7]; obtain ⟨c0, c1, c2, c3, c4, c5, c6, z0, z1, z2, z3, z4, z5, z6, zl⟩ := H1.all)
                        have H1' := Lib.hid H1
                        have hR : hdV 0 0 0 0 0 3 24 = sunHdV W H 1 t mk mb := by
                          have : firstBad (sunChks W H 1 t mk mb) = some (3, 24) := by simp [firstBad, sunChks, SunDepth, SunMapped, p1, p2, p3, p4, r0, r1]
                          unfold sunHdV
                          rw [this]
                          rfl
                        exact bodyPost_ret (v := hdV 0 0 0 0 0 3 24) (by simp [results, Tryz.results58, go_sem, hdV, hd7, c0, c1, c2, c3, c4, c5, c6]) rfl ⟨ret1 hR, H1'.out.store⟩
                      · have r1' : ¬ (1 : Int) < (mk : Int) := by omega
                        by_cases r2 : mk = 0
                        · subst r2
                          by_cases r3 : mb = 0
                          · subst r3
                            go_wp2_with fail
                            have H1 := HG.out.2
                            have H1' := Lib.hid H1
                            obtain ⟨c0, c1, c2, c3, c4, c5, c6, z0, z1, z2, z3, z4, z5, z6, zl⟩ := H1.all
                            clear H1
                            refine wp_region_held_drew (S := (fun wx => LN7 wx g W H 1 t 0 0)) (by kernel_rfl) HG.out.1 (fun hHeld => ?_)
                            refine wpAnyH_take (i := 0) (v := ?_) rfl (by kernel_rfl) (by kernel_rfl) (by kernel_rfl) (fun _ _ _ h => h) (Or.inl ⟨by kernel_rfl, ?_⟩) (by assumption) ?_
                            rotate_left
                            · intro w hSw; obtain ⟨C1, C2, C3, C5, C6, C7⟩ := hSw; go_simp; (try with_reducible rfl)
                            (try simp only [Act.put, List.setIfInBounds_toArray, List.set_cons_zero, List.set_cons_succ])
                            refine wpAnyH_take (i := 1) (v := ?_) rfl (by kernel_rfl) (by kernel_rfl) (by kernel_rfl) (fun _ _ _ h => h) (Or.inl ⟨by kernel_rfl, ?_⟩) (by assumption) ?_
                            rotate_left
                            · intro w hSw; obtain ⟨C1, C2, C3, C5, C6, C7⟩ := hSw; go_simp; (try with_reducible rfl)
                            (try simp only [Act.put, List.setIfInBounds_toArray, List.set_cons_zero, List.set_cons_succ])
                            refine wpAnyH_take (i := 2) (v := ?_) rfl (by kernel_rfl) (by kernel_rfl) (by kernel_rfl) (fun _ _ _ h => h) (Or.inl ⟨by kernel_rfl, ?_⟩) (by assumption) ?_
                            rotate_left
                            · intro w hSw; obtain ⟨C1, C2, C3, C5, C6, C7⟩ := hSw; go_simp; (try with_reducible rfl)
                            (try simp only [Act.put, List.setIfInBounds_toArray, List.set_cons_zero, List.set_cons_succ])
                            refine wpAnyH_take (i := 3) (v := ?_) rfl (by kernel_rfl) (by kernel_rfl) (by kernel_rfl) (fun _ _ _ h => h) (Or.inl ⟨by kernel_rfl, ?_⟩) (by assumption) ?_
                            rotate_left
                            · intro w hSw; obtain ⟨C1, C2, C3, C5, C6, C7⟩ := hSw; go_simp; (try with_reducible rfl)
                            (try simp only [Act.put, List.setIfInBounds_toArray, List.set_cons_zero, List.set_cons_succ])
                            refine wpAnyH_take (i := 4) (v := ?_) rfl (by kernel_rfl) (by kernel_rfl) (by kernel_rfl) (fun _ _ _ h => h) (Or.inl ⟨by kernel_rfl, ?_⟩) (by assumption) ?_
                            rotate_left
                            · intro w hSw; obtain ⟨C1, C2, C3, C5, C6, C7⟩ := hSw; go_simp; (try with_reducible rfl)
                            (try simp only [Act.put, List.setIfInBounds_toArray, List.set_cons_zero, List.set_cons_succ])
                            refine wpAnyH_take (i := 5) (v := ?_) rfl (by kernel_rfl) (by kernel_rfl) (by kernel_rfl) (fun _ _ _ h => h) (Or.inl ⟨by kernel_rfl, ?_⟩) (by assumption) ?_
                            rotate_left
                            · intro w hSw; obtain ⟨C1, C2, C3, C5, C6, C7⟩ := hSw; go_simp; (try with_reducible rfl)
                            (try simp only [Act.put, List.setIfInBounds_toArray, List.set_cons_zero, List.set_cons_succ])
                            refine wpAnyH_take (i := 6) (v := ?_) rfl (by kernel_rfl) (by kernel_rfl) (by kernel_rfl) (fun _ _ _ h => h) (Or.inl ⟨by kernel_rfl, ?_⟩) (by assumption) ?_
                            rotate_left
                            · intro w hSw; obtain ⟨C1, C2, C3, C5, C6, C7⟩ := hSw; go_simp; (try with_reducible rfl)
                            (try simp only [Act.put, List.setIfInBounds_toArray, List.set_cons_zero, List.set_cons_succ])
                            refine wpAnyH_take (i := 7) (v := ?_) rfl (by kernel_rfl) (by kernel_rfl) (by kernel_rfl) (fun _ _ _ h => h) (Or.inl ⟨by kernel_rfl, ?_⟩) (by assumption) ?_
                            rotate_left
                            · intro w hSw; obtain ⟨C1, C2, C3, C5, C6, C7⟩ := hSw; go_simp; (try with_reducible rfl)
                            (try simp only [Act.put, List.setIfInBounds_toArray, List.set_cons_zero, List.set_cons_succ])
                            refine wpAnyH_take (i := 8) (v := ?_) rfl (by kernel_rfl) (by kernel_rfl) (by kernel_rfl) (fun _ _ _ h => h) (Or.inl ⟨by kernel_rfl, ?_⟩) (by assumption) ?_
                            rotate_left
                            · intro w hSw; obtain ⟨C1, C2, C3, C5, C6, C7⟩ := hSw; go_simp; (try with_reducible rfl)
                            (try simp only [Act.put, List.setIfInBounds_toArray, List.set_cons_zero, List.set_cons_succ])
                            refine wpAnyH_take (i := 9) (v := ?_) rfl (by kernel_rfl) (by kernel_rfl) (by kernel_rfl) (fun _ _ _ h => h) (Or.inl ⟨by kernel_rfl, ?_⟩) (by assumption) ?_
                            rotate_left
                            · intro w hSw; obtain ⟨C1, C2, C3, C5, C6, C7⟩ := hSw; go_simp; (try with_reducible rfl)
                            (try simp only [Act.put, List.setIfInBounds_toArray, List.set_cons_zero, List.set_cons_succ])
                            refine wpAnyH_take (i := 10) (v := ?_) rfl (by kernel_rfl) (by kernel_rfl) (by kernel_rfl) (fun _ _ _ h => h) (Or.inl ⟨by kernel_rfl, ?_⟩) (by assumption) ?_
                            rotate_left
                            · intro w hSw; obtain ⟨C1, C2, C3, C5, C6, C7⟩ := hSw; go_simp; (try with_reducible rfl)
                            (try simp only [Act.put, List.setIfInBounds_toArray, List.set_cons_zero, List.set_cons_succ])
                            refine wpAnyH_take (i := 11) (v := ?_) rfl (by kernel_rfl) (by kernel_rfl) (by kernel_rfl) (fun _ _ _ h => h) (Or.inl ⟨by kernel_rfl, ?_⟩) (by assumption) ?_
                            rotate_left
                            · intro w hSw; obtain ⟨C1, C2, C3, C5, C6, C7⟩ := hSw; go_simp; (try with_reducible rfl)
                            (try simp only [Act.put, List.setIfInBounds_toArray, List.set_cons_zero, List.set_cons_succ])
                            refine wpAnyH_take (i := 12) (v := ?_) rfl (by kernel_rfl) (by kernel_rfl) (by kernel_rfl) (fun _ _ _ h => h) (Or.inl ⟨by kernel_rfl, ?_⟩) (by assumption) ?_
                            rotate_left
                            · intro w hSw; obtain ⟨C1, C2, C3, C5, C6, C7⟩ := hSw; go_simp; (try with_reducible rfl)
                            (try simp only [Act.put, List.setIfInBounds_toArray, List.set_cons_zero, List.set_cons_succ])
                            refine wpAnyH_take (i := 13) (v := ?_) rfl (by kernel_rfl) (by kernel_rfl) (by kernel_rfl) (fun _ _ _ h => h) (Or.inl ⟨by kernel_rfl, ?_⟩) (by assumption) ?_
                            rotate_left
                            · intro w hSw; obtain ⟨C1, C2, C3, C5, C6, C7⟩ := hSw; go_simp; (try with_reducible rfl)
                            (try simp only [Act.put, List.setIfInBounds_toArray, List.set_cons_zero, List.set_cons_succ])
                            refine wpAnyH_take (i := 14) (v := ?_) rfl (by kernel_rfl) (by kernel_rfl) (by kernel_rfl) (fun _ _ _ h => h) (Or.inl ⟨by kernel_rfl, ?_⟩) (by assumption) ?_
                            rotate_left
                            · intro w hSw; obtain ⟨C1, C2, C3, C5, C6, C7⟩ := hSw; go_simp; (try with_reducible rfl)
                            (try simp only [Act.put, List.setIfInBounds_toArray, List.set_cons_zero, List.set_cons_succ])
                            refine wpAnyH_take (i := 15) (v := ?_) rfl (by kernel_rfl) (by kernel_rfl) (by kernel_rfl) (fun _ _ _ h => h) (Or.inl ⟨by kernel_rfl, ?_⟩) (by assumption) ?_
                            rotate_left
                            · intro w hSw; obtain ⟨C1, C2, C3, C5, C6, C7⟩ := hSw; go_simp; (try with_reducible rfl)
                            (try simp only [Act.put, List.setIfInBounds_toArray, List.set_cons_zero, List.set_cons_succ])
                            refine wpAnyH_take (i := 16) (v := ?_) rfl (by kernel_rfl) (by kernel_rfl) (by kernel_rfl) (fun _ _ _ h => h) (Or.inl ⟨by kernel_rfl, ?_⟩) (by assumption) ?_
                            rotate_left
                            · intro w hSw; obtain ⟨C1, C2, C3, C5, C6, C7⟩ := hSw; go_simp; (try with_reducible rfl)
                            (try simp only [Act.put, List.setIfInBounds_toArray, List.set_cons_zero, List.set_cons_succ])
                            refine wpAnyH_ready (rs := [17]) (by kernel_rfl) (by simp) ?_
                            refine AllReadyH.cons rfl (fun K hK => ?_) AllReadyH.nil
                            go_simp
                            refine hK.out _ _ (LN7.set7 hgb HG.out.1).drew (fun hHeld' => ?_)
                            clear hK K hHeld
                            have hHeld := hHeld'
                            clear hHeld'
                            (try simp only [Act.put, List.setIfInBounds_toArray, List.set_cons_zero, List.set_cons_succ])
                            refine wpAnyH_done (by kernel_rfl) ?_ _
                            (try simp only [List.getElem_toArray, List.getElem_cons_succ, List.getElem_cons_zero, List.set_cons_zero, List.set_cons_succ])
                            clear hHeld
                            go_wp2_with fail
                            have hR : hdV (W : Int) (H : Int) (1 : Int) (t : Int) (0 : Int) 0 0 = sunHdV W H 1 t 0 0 := by
                              have : firstBad (sunChks W H 1 t 0 0) = none := by simp [firstBad, sunChks, SunDepth, SunMapped, p1, p2, p3, p4, r0]
                              unfold sunHdV
                              rw [this]
                              rfl
                            exact bodyPost_ret (v := hdV (W : Int) (H : Int) (1 : Int) (t : Int) (0 : Int) 0 0) (by simp [results, Tryz.results58, go_sem, hdV, hd7, c0, c1, c2, c3, c4, c5, c6]; (first | rfl | exact IntWalk.i64_in _ (by omega))) rfl ⟨ret1 hR, H1'.out.store.drew⟩
                          · have r3' : ¬ (mb : Int) = 0 := by omega
                            go_wp2_with (go_at_call 135; refine (refSunBad _ _ _).mono ?_; rintro e w1 ⟨rfl, b1⟩; have H1 := HG.out.2.below b1; simp only [hdV, hd7]; obtain ⟨c0, c1, c2, c3, c4, c5, c6, z0, z1, z2, z3, z4, z5, z6, zl⟩ := H1.all)
                            have H1' := Lib.hid H1
                            have hR : hdV 0 0 0 0 0 2 28 = sunHdV W H 1 t 0 mb := by
                              have : firstBad (sunChks W H 1 t 0 mb) = some (2, 28) := by simp [firstBad, sunChks, SunDepth, SunMapped, p1, p2, p3, p4, r0, r3]
                              unfold sunHdV
                              rw [this]
                              rfl
                            exact bodyPost_ret (v := hdV 0 0 0 0 0 2 28) (by simp [results, Tryz.results58, go_sem, hdV, hd7, c0, c1, c2, c3, c4, c5, c6]) rfl ⟨ret1 hR, H1'.out.store⟩
                        · obtain rfl : mk = 1 := by omega
                          by_cases r3 : mb = 0
                          · subst r3
                            go_wp2_with (go_at_call 135; refine (refSunBad _ _ _).mono ?_; rintro e w1 ⟨rfl, b1⟩; have H1 := HG.out.2.below b1; simp only [hdV, hd7]; obtain ⟨c0, c1, c2, c3, c4, c5, c6, z0, z1, z2, z3, z4, z5, z6, zl⟩ := H1.all)
                            have H1' := Lib.hid H1
                            have hR : hdV 0 0 0 0 0 2 28 = sunHdV W H 1 t 1 0 := by
                              have : firstBad (sunChks W H 1 t 1 0) = some (2, 28) := by simp [firstBad, sunChks, SunDepth, SunMapped, p1, p2, p3, p4, r0]
                              unfold sunHdV
                              rw [this]
                              rfl
                            exact bodyPost_ret (v := hdV 0 0 0 0 0 2 28) (by simp [results, Tryz.results58, go_sem, hdV, hd7, c0, c1, c2, c3, c4, c5, c6]) rfl ⟨ret1 hR, H1'.out.store⟩
                          · have r3' : ¬ (mb : Int) = 0 := by omega
                            by_cases r4 : 768 < mb
                            · have r4' : (768 : Int) < (mb : Int) := by omega
                              have r4n : ¬ mb ≤ 768 := by omega
                              go_wp2_with (go_at_call 135; refine (refSunBad _ _ _).mono ?_; rintro e w1 ⟨rfl, b1⟩; have H1 := HG.out.2.below b1; simp only [hdV, hd7]; obtain ⟨c0, c1, c2, c3, c4, c5, c6, z0, z1, z2, z3, z4, z5, z6, zl⟩ := H1.all)
                              have H1' := Lib.hid H1
                              have hR : hdV 0 0 0 0 0 2 28 = sunHdV W H 1 t 1 mb := by
                                have : firstBad (sunChks W H 1 t 1 mb) = some (2, 28) := by simp [firstBad, sunChks, SunDepth, SunMapped, p1, p2, p3, p4, r0, r3, r4n]
                                unfold sunHdV
                                rw [this]
                                rfl
                              exact bodyPost_ret (v := hdV 0 0 0 0 0 2 28) (by simp [results, Tryz.results58, go_sem, hdV, hd7, c0, c1, c2, c3, c4, c5, c6]) rfl ⟨ret1 hR, H1'.out.store⟩
                            · have r4' : ¬ (768 : Int) < (mb : Int) := by omega
                              have r4n : mb ≤ 768 := by omega
                              have r3n : 0 < mb := by omega
                              have r3e : ((mb : Int) == 0) = false := by rw [beq_eq_false_iff_ne]; omega
                              by_cases r5 : mb % 3 = 0
                              · have r5' : ((mb : Int) % 3 != 0) = false := by rw [bne_eq_false_iff_eq]; omega
                                obtain ⟨q, hq⟩ : ∃ q, mb / 3 = q := ⟨_, rfl⟩
                                have hqI : (mb : Int) / 3 = (q : Int) := by omega
                                have hql : (q : Int) ≤ 256 := by omega
                                go_wp2_with fail
                                have H1 := HG.out.2
                                have H1' := Lib.hid H1
                                obtain ⟨c0, c1, c2, c3, c4, c5, c6, z0, z1, z2, z3, z4, z5, z6, zl⟩ := H1.all
                                clear H1
                                refine wp_region_held_drew (S := (fun wx => LN7 wx g W H 1 t 1 mb)) (by kernel_rfl) HG.out.1 (fun hHeld => ?_)
                                refine wpAnyH_take (i := 0) (v := ?_) rfl (by kernel_rfl) (by kernel_rfl) (by kernel_rfl) (fun _ _ _ h => h) (Or.inl ⟨by kernel_rfl, ?_⟩) (by assumption) ?_
                                rotate_left
                                · intro w hSw; obtain ⟨C1, C2, C3, C5, C6, C7⟩ := hSw; go_simp; (try with_reducible rfl)
                                (try simp only [Act.put, List.setIfInBounds_toArray, List.set_cons_zero, List.set_cons_succ])
                                refine wpAnyH_take (i := 1) (v := ?_) rfl (by kernel_rfl) (by kernel_rfl) (by kernel_rfl) (fun _ _ _ h => h) (Or.inl ⟨by kernel_rfl, ?_⟩) (by assumption) ?_
                                rotate_left
                                · intro w hSw; obtain ⟨C1, C2, C3, C5, C6, C7⟩ := hSw; go_simp; (try with_reducible rfl)
                                (try simp only [Act.put, List.setIfInBounds_toArray, List.set_cons_zero, List.set_cons_succ])
                                refine wpAnyH_take (i := 2) (v := ?_) rfl (by kernel_rfl) (by kernel_rfl) (by kernel_rfl) (fun _ _ _ h => h) (Or.inl ⟨by kernel_rfl, ?_⟩) (by assumption) ?_
                                rotate_left
                                · intro w hSw; obtain ⟨C1, C2, C3, C5, C6, C7⟩ := hSw; go_simp; (try with_reducible rfl)
                                (try simp only [Act.put, List.setIfInBounds_toArray, List.set_cons_zero, List.set_cons_succ])
                                refine wpAnyH_take (i := 3) (v := ?_) rfl (by kernel_rfl) (by kernel_rfl) (by kernel_rfl) (fun _ _ _ h => h) (Or.inl ⟨by kernel_rfl, ?_⟩) (by assumption) ?_
                                rotate_left
                                · intro w hSw; obtain ⟨C1, C2, C3, C5, C6, C7⟩ := hSw; go_simp; (try with_reducible rfl)
                                (try simp only [Act.put, List.setIfInBounds_toArray, List.set_cons_zero, List.set_cons_succ])
                                refine wpAnyH_take (i := 4) (v := ?_) rfl (by kernel_rfl) (by kernel_rfl) (by kernel_rfl) (fun _ _ _ h => h) (Or.inl ⟨by kernel_rfl, ?_⟩) (by assumption) ?_
                                rotate_left
                                · intro w hSw; obtain ⟨C1, C2, C3, C5, C6, C7⟩ := hSw; go_simp; (try with_reducible rfl)
                                (try simp only [Act.put, List.setIfInBounds_toArray, List.set_cons_zero, List.set_cons_succ])
                                refine wpAnyH_take (i := 5) (v := ?_) rfl (by kernel_rfl) (by kernel_rfl) (by kernel_rfl) (fun _ _ _ h => h) (Or.inl ⟨by kernel_rfl, ?_⟩) (by assumption) ?_
                                rotate_left
                                · intro w hSw; obtain ⟨C1, C2, C3, C5, C6, C7⟩ := hSw; go_simp; (try with_reducible rfl)
                                (try simp only [Act.put, List.setIfInBounds_toArray, List.set_cons_zero, List.set_cons_succ])
                                refine wpAnyH_take (i := 6) (v := ?_) rfl (by kernel_rfl) (by kernel_rfl) (by kernel_rfl) (fun _ _ _ h => h) (Or.inl ⟨by kernel_rfl, ?_⟩) (by assumption) ?_
                                rotate_left
                                · intro w hSw; obtain ⟨C1, C2, C3, C5, C6, C7⟩ := hSw; go_simp; (try with_reducible rfl)
                                (try simp only [Act.put, List.setIfInBounds_toArray, List.set_cons_zero, List.set_cons_succ])
                                refine wpAnyH_take (i := 7) (v := ?_) rfl (by kernel_rfl) (by kernel_rfl) (by kernel_rfl) (fun _ _ _ h => h) (Or.inl ⟨by kernel_rfl, ?_⟩) (by assumption) ?_
                                rotate_left
                                · intro w hSw; obtain ⟨C1, C2, C3, C5, C6, C7⟩ := hSw; go_simp; (try with_reducible rfl)
                                (try simp only [Act.put, List.setIfInBounds_toArray, List.set_cons_zero, List.set_cons_succ])
                                refine wpAnyH_take (i := 8) (v := ?_) rfl (by kernel_rfl) (by kernel_rfl) (by kernel_rfl) (fun _ _ _ h => h) (Or.inl ⟨by kernel_rfl, ?_⟩) (by assumption) ?_
                                rotate_left
                                · intro w hSw; obtain ⟨C1, C2, C3, C5, C6, C7⟩ := hSw; go_simp; (try with_reducible rfl)
                                (try simp only [Act.put, List.setIfInBounds_toArray, List.set_cons_zero, List.set_cons_succ])
                                refine wpAnyH_take (i := 9) (v := ?_) rfl (by kernel_rfl) (by kernel_rfl) (by kernel_rfl) (fun _ _ _ h => h) (Or.inl ⟨by kernel_rfl, ?_⟩) (by assumption) ?_
                                rotate_left
                                · intro w hSw; obtain ⟨C1, C2, C3, C5, C6, C7⟩ := hSw; go_simp; (try with_reducible rfl)
                                (try simp only [Act.put, List.setIfInBounds_toArray, List.set_cons_zero, List.set_cons_succ])
                                refine wpAnyH_take (i := 10) (v := ?_) rfl (by kernel_rfl) (by kernel_rfl) (by kernel_rfl) (fun _ _ _ h => h) (Or.inl ⟨by kernel_rfl, ?_⟩) (by assumption) ?_
                                rotate_left
                                · intro w hSw; obtain ⟨C1, C2, C3, C5, C6, C7⟩ := hSw; go_simp; (try with_reducible rfl)
                                (try simp only [Act.put, List.setIfInBounds_toArray, List.set_cons_zero, List.set_cons_succ])
                                refine wpAnyH_take (i := 11) (v := ?_) rfl (by kernel_rfl) (by kernel_rfl) (by kernel_rfl) (fun _ _ _ h => h) (Or.inl ⟨by kernel_rfl, ?_⟩) (by assumption) ?_
                                rotate_left
                                · intro w hSw; obtain ⟨C1, C2, C3, C5, C6, C7⟩ := hSw; go_simp; (try with_reducible rfl)
                                (try simp only [Act.put, List.setIfInBounds_toArray, List.set_cons_zero, List.set_cons_succ])
                                refine wpAnyH_take (i := 12) (v := ?_) rfl (by kernel_rfl) (by kernel_rfl) (by kernel_rfl) (fun _ _ _ h => h) (Or.inl ⟨by kernel_rfl, ?_⟩) (by assumption) ?_
                                rotate_left
                                · intro w hSw; obtain ⟨C1, C2, C3, C5, C6, C7⟩ := hSw; go_simp; (try with_reducible rfl)
                                (try simp only [Act.put, List.setIfInBounds_toArray, List.set_cons_zero, List.set_cons_succ])
                                refine wpAnyH_take (i := 13) (v := ?_) rfl (by kernel_rfl) (by kernel_rfl) (by kernel_rfl) (fun _ _ _ h => h) (Or.inl ⟨by kernel_rfl, ?_⟩) (by assumption) ?_
                                rotate_left
                                · intro w hSw; obtain ⟨C1, C2, C3, C5, C6, C7⟩ := hSw; go_simp; (try with_reducible rfl)
                                (try simp only [Act.put, List.setIfInBounds_toArray, List.set_cons_zero, List.set_cons_succ])
                                refine wpAnyH_take (i := 14) (v := ?_) rfl (by kernel_rfl) (by kernel_rfl) (by kernel_rfl) (fun _ _ _ h => h) (Or.inl ⟨by kernel_rfl, ?_⟩) (by assumption) ?_
                                rotate_left
                                · intro w hSw; obtain ⟨C1, C2, C3, C5, C6, C7⟩ := hSw; go_simp; (try with_reducible rfl)
                                (try simp only [Act.put, List.setIfInBounds_toArray, List.set_cons_zero, List.set_cons_succ])
                                refine wpAnyH_take (i := 15) (v := ?_) rfl (by kernel_rfl) (by kernel_rfl) (by kernel_rfl) (fun _ _ _ h => h) (Or.inl ⟨by kernel_rfl, ?_⟩) (by assumption) ?_
                                rotate_left
                                · intro w hSw; obtain ⟨C1, C2, C3, C5, C6, C7⟩ := hSw; go_simp; (try with_reducible rfl)
                                (try simp only [Act.put, List.setIfInBounds_toArray, List.set_cons_zero, List.set_cons_succ])
                                refine wpAnyH_take (i := 16) (v := ?_) rfl (by kernel_rfl) (by kernel_rfl) (by kernel_rfl) (fun _ _ _ h => h) (Or.inl ⟨by kernel_rfl, ?_⟩) (by assumption) ?_
                                rotate_left
                                · intro w hSw; obtain ⟨C1, C2, C3, C5, C6, C7⟩ := hSw; go_simp; (try with_reducible rfl)
                                (try simp only [Act.put, List.setIfInBounds_toArray, List.set_cons_zero, List.set_cons_succ])
                                refine wpAnyH_ready (rs := [17]) (by kernel_rfl) (by simp) ?_
                                refine AllReadyH.cons rfl (fun K hK => ?_) AllReadyH.nil
                                go_simp
                                refine hK.out _ _ (LN7.set7 hgb HG.out.1).drew (fun hHeld' => ?_)
                                clear hK K hHeld
                                have hHeld := hHeld'
                                clear hHeld'
                                (try simp only [Act.put, List.setIfInBounds_toArray, List.set_cons_zero, List.set_cons_succ])
                                refine wpAnyH_done (by kernel_rfl) ?_ _
                                (try simp only [List.getElem_toArray, List.getElem_cons_succ, List.getElem_cons_zero, List.set_cons_zero, List.set_cons_succ])
                                clear hHeld
                                go_wp2_with fail
                                have hR : hdV (W : Int) (H : Int) (1 : Int) (t : Int) (q : Int) 0 0 = sunHdV W H 1 t 1 mb := by
                                  have : firstBad (sunChks W H 1 t 1 mb) = none := by simp [firstBad, sunChks, SunDepth, SunMapped, p1, p2, p3, p4, r0, r3, r3n, r4n, r5]
                                  unfold sunHdV
                                  rw [this]
                                  rw [hq]; rfl
                                exact bodyPost_ret (v := hdV (W : Int) (H : Int) (1 : Int) (t : Int) (q : Int) 0 0) (by simp [results, Tryz.results58, go_sem, hdV, hd7, c0, c1, c2, c3, c4, c5, c6]; (first | rfl | exact IntWalk.i64_in _ (by omega))) rfl ⟨ret1 hR, H1'.out.store.drew⟩
                              · have r5' : ((mb : Int) % 3 != 0) = true := by rw [bne_iff_ne]; omega
                                go_wp2_with (go_at_call 135; refine (refSunBad _ _ _).mono ?_; rintro e w1 ⟨rfl, b1⟩; have H1 := HG.out.2.below b1; simp only [hdV, hd7]; obtain ⟨c0, c1, c2, c3, c4, c5, c6, z0, z1, z2, z3, z4, z5, z6, zl⟩ := H1.all)
                                have H1' := Lib.hid H1
                                have hR : hdV 0 0 0 0 0 2 28 = sunHdV W H 1 t 1 mb := by
                                  have : firstBad (sunChks W H 1 t 1 mb) = some (2, 28) := by simp [firstBad, sunChks, SunDepth, SunMapped, p1, p2, p3, p4, r0, r3, r4n, r5]
                                  unfold sunHdV
                                  rw [this]
                                  rfl
                                exact bodyPost_ret (v := hdV 0 0 0 0 0 2 28) (by simp [results, Tryz.results58, go_sem, hdV, hd7, c0, c1, c2, c3, c4, c5, c6]) rfl ⟨ret1 hR, H1'.out.store⟩
                  ·
                    by_cases r0 : 3 < t
                    · have r0' : (3 : Int) < (t : Int) := by omega
                      go_wp2_with (go_at_call 135; refine (refSunBad _ _ _).mono ?_; rintro e w1 ⟨rfl, b1⟩; have H1 := HG.out.2.below b1; simp only [hdV, hd7]; obtain ⟨c0, c1, c2, c3, c4, c5, c6, z0, z1, z2, z3, z4, z5, z6, zl⟩ := H1.all)
                      have H1' := Lib.hid H1
                      have hR : hdV 0 0 0 0 0 3 20 = sunHdV W H 8 t mk mb := by
                        have : firstBad (sunChks W H 8 t mk mb) = some (3, 20) := by simp [firstBad, sunChks, SunDepth, SunMapped, p1, p2, p3, p4, r0]
                        unfold sunHdV
                        rw [this]
                        rfl
                      exact bodyPost_ret (v := hdV 0 0 0 0 0 3 20) (by simp [results, Tryz.results58, go_sem, hdV, hd7, c0, c1, c2, c3, c4, c5, c6]) rfl ⟨ret1 hR, H1'.out.store⟩
                    · have r0' : ¬ (3 : Int) < (t : Int) := by omega
                      by_cases r1 : 1 < mk
                      · have r1' : (1 : Int) < (mk : Int) := by omega
                        go_wp2_with (go_at_call 135; refine (refSunBad _ _ _).mono ?_; rintro e w1 ⟨rfl, b1⟩; have H1 := HG.out.2.below b1; simp only [hdV, hd7]; obtain ⟨c0, c1, c2, c3, c4, c5, c6, z0, z1, z2, z3, z4, z5, z6, zl⟩ := H1.all)
                        have H1' := Lib.hid H1
                        have hR : hdV 0 0 0 0 0 3 24 = sunHdV W H 8 t mk mb := by
                          have : firstBad (sunChks W H 8 t mk mb) = some (3, 24) := by simp [firstBad, sunChks, SunDepth, SunMapped, p1, p2, p3, p4, r0, r1]
                          unfold sunHdV
                          rw [this]
                          rfl
                        exact bodyPost_ret (v := hdV 0 0 0 0 0 3 24) (by simp [results, Tryz.results58, go_sem, hdV, hd7, c0, c1, c2, c3, c4, c5, c6]) rfl ⟨ret1 hR, H1'.out.store⟩
                      · have r1' : ¬ (1 : Int) < (mk : Int) := by omega
                        by_cases r2 : mk = 0
                        · subst r2
                          by_cases r3 : mb = 0
                          · subst r3
                            go_wp2_with fail
                            have H1 := HG.out.2
                            have H1' := Lib.hid H1
                            obtain ⟨c0, c1, c2, c3, c4, c5, c6, z0, z1, z2, z3, z4, z5, z6, zl⟩ := H1.all
                            clear H1
                            refine wp_region_held_drew (S := (fun wx => LN7 wx g W H 8 t 0 0)) (by kernel_rfl) HG.out.1 (fun hHeld => ?_)
                            refine wpAnyH_take (i := 0) (v := ?_) rfl (by kernel_rfl) (by kernel_rfl) (by kernel_rfl) (fun _ _ _ h => h) (Or.inl ⟨by kernel_rfl, ?_⟩) (by assumption) ?_
                            rotate_left
                            · intro w hSw; obtain ⟨C1, C2, C3, C5, C6, C7⟩ := hSw; go_simp; (try with_reducible rfl)
                            (try simp only [Act.put, List.setIfInBounds_toArray, List.set_cons_zero, List.set_cons_succ])
                            refine wpAnyH_take (i := 1) (v := ?_) rfl (by kernel_rfl) (by kernel_rfl) (by kernel_rfl) (fun _ _ _ h => h) (Or.inl ⟨by kernel_rfl, ?_⟩) (by assumption) ?_
                            rotate_left
                            · intro w hSw; obtain ⟨C1, C2, C3, C5, C6, C7⟩ := hSw; go_simp; (try with_reducible rfl)
                            (try simp only [Act.put, List.setIfInBounds_toArray, List.set_cons_zero, List.set_cons_succ])
                            refine wpAnyH_take (i := 2) (v := ?_) rfl (by kernel_rfl) (by kernel_rfl) (by kernel_rfl) (fun _ _ _ h => h) (Or.inl ⟨by kernel_rfl, ?_⟩) (by assumption) ?_
                            rotate_left
                            · intro w hSw; obtain ⟨C1, C2, C3, C5, C6, C7⟩ := hSw; go_simp; (try with_reducible rfl)
                            (try simp only [Act.put, List.setIfInBounds_toArray, List.set_cons_zero, List.set_cons_succ])
                            refine wpAnyH_take (i := 3) (v := ?_) rfl (by kernel_rfl) (by kernel_rfl) (by kernel_rfl) (fun _ _ _ h => h) (Or.inl ⟨by kernel_rfl, ?_⟩) (by assumption) ?_
                            rotate_left
                            · intro w hSw; obtain ⟨C1, C2, C3, C5, C6, C7⟩ := hSw; go_simp; (try with_reducible rfl)
                            (try simp only [Act.put, List.setIfInBounds_toArray, List.set_cons_zero, List.set_cons_succ])
                            refine wpAnyH_take (i := 4) (v := ?_) rfl (by kernel_rfl) (by kernel_rfl) (by kernel_rfl) (fun _ _ _ h => h) (Or.inl ⟨by kernel_rfl, ?_⟩) (by assumption) ?_
                            rotate_left
                            · intro w hSw; obtain ⟨C1, C2, C3, C5, C6, C7⟩ := hSw; go_simp; (try with_reducible rfl)
                            (try simp only [Act.put, List.setIfInBounds_toArray, List.set_cons_zero, List.set_cons_succ])
                            refine wpAnyH_take (i := 5) (v := ?_) rfl (by kernel_rfl) (by kernel_rfl) (by kernel_rfl) (fun _ _ _ h => h) (Or.inl ⟨by kernel_rfl, ?_⟩) (by assumption) ?_
                            rotate_left
                            · intro w hSw; obtain ⟨C1, C2, C3, C5, C6, C7⟩ := hSw; go_simp; (try with_reducible rfl)
                            (try simp only [Act.put, List.setIfInBounds_toArray, List.set_cons_zero, List.set_cons_succ])
                            refine wpAnyH_take (i := 6) (v := ?_) rfl (by kernel_rfl) (by kernel_rfl) (by kernel_rfl) (fun _ _ _ h => h) (Or.inl ⟨by kernel_rfl, ?_⟩) (by assumption) ?_
                            rotate_left
                            · intro w hSw; obtain ⟨C1, C2, C3, C5, C6, C7⟩ := hSw; go_simp; (try with_reducible rfl)
                            (try simp only [Act.put, List.setIfInBounds_toArray, List.set_cons_zero, List.set_cons_succ])
                            refine wpAnyH_take (i := 7) (v := ?_) rfl (by kernel_rfl) (by kernel_rfl) (by kernel_rfl) (fun _ _ _ h => h) (Or.inl ⟨by kernel_rfl, ?_⟩) (by assumption) ?_
                            rotate_left
                            · intro w hSw; obtain ⟨C1, C2, C3, C5, C6, C7⟩ := hSw; go_simp; (try with_reducible rfl)
                            (try simp only [Act.put, List.setIfInBounds_toArray, List.set_cons_zero, List.set_cons_succ])
                            refine wpAnyH_take (i := 8) (v := ?_) rfl (by kernel_rfl) (by kernel_rfl) (by kernel_rfl) (fun _ _ _ h => h) (Or.inl ⟨by kernel_rfl, ?_⟩) (by assumption) ?_
                            rotate_left
                            · intro w hSw; obtain ⟨C1, C2, C3, C5, C6, C7⟩ := hSw; go_simp; (try with_reducible rfl)
                            (try simp only [Act.put, List.setIfInBounds_toArray, List.set_cons_zero, List.set_cons_succ])
                            refine wpAnyH_take (i := 9) (v := ?_) rfl (by kernel_rfl) (by kernel_rfl) (by kernel_rfl) (fun _ _ _ h => h) (Or.inl ⟨by kernel_rfl, ?_⟩) (by assumption) ?_
                            rotate_left
                            · intro w hSw; obtain ⟨C1, C2, C3, C5, C6, C7⟩ := hSw; go_simp; (try with_reducible rfl)
                            (try simp only [Act.put, List.setIfInBounds_toArray, List.set_cons_zero, List.set_cons_succ])
                            refine wpAnyH_take (i := 10) (v := ?_) rfl (by kernel_rfl) (by kernel_rfl) (by kernel_rfl) (fun _ _ _ h => h) (Or.inl ⟨by kernel_rfl, ?_⟩) (by assumption) ?_
                            rotate_left
                            · intro w hSw; obtain ⟨C1, C2, C3, C5, C6, C7⟩ := hSw; go_simp; (try with_reducible rfl)
                            (try simp only [Act.put, List.setIfInBounds_toArray, List.set_cons_zero, List.set_cons_succ])
                            refine wpAnyH_take (i := 11) (v := ?_) rfl (by kernel_rfl) (by kernel_rfl) (by kernel_rfl) (fun _ _ _ h => h) (Or.inl ⟨by kernel_rfl, ?_⟩) (by assumption) ?_
                            rotate_left
                            · intro w hSw; obtain ⟨C1, C2, C3, C5, C6, C7⟩ := hSw; go_simp; (try with_reducible rfl)
                            (try simp only [Act.put, List.setIfInBounds_toArray, List.set_cons_zero, List.set_cons_succ])
                            refine wpAnyH_take (i := 12) (v := ?_) rfl (by kernel_rfl) (by kernel_rfl) (by kernel_rfl) (fun _ _ _ h => h) (Or.inl ⟨by kernel_rfl, ?_⟩) (by assumption) ?_
                            rotate_left
                            · intro w hSw; obtain ⟨C1, C2, C3, C5, C6, C7⟩ := hSw; go_simp; (try with_reducible rfl)
                            (try simp only [Act.put, List.setIfInBounds_toArray, List.set_cons_zero, List.set_cons_succ])
                            refine wpAnyH_take (i := 13) (v := ?_) rfl (by kernel_rfl) (by kernel_rfl) (by kernel_rfl) (fun _ _ _ h => h) (Or.inl ⟨by kernel_rfl, ?_⟩) (by assumption) ?_
                            rotate_left
                            · intro w hSw; obtain ⟨C1, C2, C3, C5, C6, C7⟩ := hSw; go_simp; (try with_reducible rfl)
                            (try simp only [Act.put, List.setIfInBounds_toArray, List.set_cons_zero, List.set_cons_succ])
                            refine wpAnyH_take (i := 14) (v := ?_) rfl (by kernel_rfl) (by kernel_rfl) (by kernel_rfl) (fun _ _ _ h => h) (Or.inl ⟨by kernel_rfl, ?_⟩) (by assumption) ?_
                            rotate_left
                            · intro w hSw; obtain ⟨C1, C2, C3, C5, C6, C7⟩ := hSw; go_simp; (try with_reducible rfl)
                            (try simp only [Act.put, List.setIfInBounds_toArray, List.set_cons_zero, List.set_cons_succ])
                            refine wpAnyH_take (i := 15) (v := ?_) rfl (by kernel_rfl) (by kernel_rfl) (by kernel_rfl) (fun _ _ _ h => h) (Or.inl ⟨by kernel_rfl, ?_⟩) (by assumption) ?_
                            rotate_left
                            · intro w hSw; obtain ⟨C1, C2, C3, C5, C6, C7⟩ := hSw; go_simp; (try with_reducible rfl)
                            (try simp only [Act.put, List.setIfInBounds_toArray, List.set_cons_zero, List.set_cons_succ])
                            refine wpAnyH_take (i := 16) (v := ?_) rfl (by kernel_rfl) (by kernel_rfl) (by kernel_rfl) (fun _ _ _ h => h) (Or.inl ⟨by kernel_rfl, ?_⟩) (by assumption) ?_
                            rotate_left
                            · intro w hSw; obtain ⟨C1, C2, C3, C5, C6, C7⟩ := hSw; go_simp; (try with_reducible rfl)
                            (try simp only [Act.put, List.setIfInBounds_toArray, List.set_cons_zero, List.set_cons_succ])
                            refine wpAnyH_ready (rs := [17]) (by kernel_rfl) (by simp) ?_
                            refine AllReadyH.cons rfl (fun K hK => ?_) AllReadyH.nil
                            go_simp
                            refine hK.out _ _ (LN7.set7 hgb HG.out.1).drew (fun hHeld' => ?_)
                            clear hK K hHeld
                            have hHeld := hHeld'
                            clear hHeld'
                            (try simp only [Act.put, List.setIfInBounds_toArray, List.set_cons_zero, List.set_cons_succ])
                            refine wpAnyH_done (by kernel_rfl) ?_ _
                            (try simp only [List.getElem_toArray, List.getElem_cons_succ, List.getElem_cons_zero, List.set_cons_zero, List.set_cons_succ])
                            clear hHeld
                            go_wp2_with fail
                            have hR : hdV (W : Int) (H : Int) (8 : Int) (t : Int) (0 : Int) 0 0 = sunHdV W H 8 t 0 0 := by
                              have : firstBad (sunChks W H 8 t 0 0) = none := by simp [firstBad, sunChks, SunDepth, SunMapped, p1, p2, p3, p4, r0]
                              unfold sunHdV
                              rw [this]
                              rfl
                            exact bodyPost_ret (v := hdV (W : Int) (H : Int) (8 : Int) (t : Int) (0 : Int) 0 0) (by simp [results, Tryz.results58, go_sem, hdV, hd7, c0, c1, c2, c3, c4, c5, c6]; (first | rfl | exact IntWalk.i64_in _ (by omega))) rfl ⟨ret1 hR, H1'.out.store.drew⟩
                          · have r3' : ¬ (mb : Int) = 0 := by omega
                            go_wp2_with (go_at_call 135; refine (refSunBad _ _ _).mono ?_; rintro e w1 ⟨rfl, b1⟩; have H1 := HG.out.2.below b1; simp only [hdV, hd7]; obtain ⟨c0, c1, c2, c3, c4, c5, c6, z0, z1, z2, z3, z4, z5, z6, zl⟩ := H1.all)
                            have H1' := Lib.hid H1
                            have hR : hdV 0 0 0 0 0 2 28 = sunHdV W H 8 t 0 mb := by
                              have : firstBad (sunChks W H 8 t 0 mb) = some (2, 28) := by simp [firstBad, sunChks, SunDepth, SunMapped, p1, p2, p3, p4, r0, r3]
                              unfold sunHdV
                              rw [this]
                              rfl
                            exact bodyPost_ret (v := hdV 0 0 0 0 0 2 28) (by simp [results, Tryz.results58, go_sem, hdV, hd7, c0, c1, c2, c3, c4, c5, c6]) rfl ⟨ret1 hR, H1'.out.store⟩
                        · obtain rfl : mk = 1 := by omega
                          by_cases r3 : mb = 0
                          · subst r3
                            go_wp2_with (go_at_call 135; refine (refSunBad _ _ _).mono ?_; rintro e w1 ⟨rfl, b1⟩; have H1 := HG.out.2.below b1; simp only [hdV, hd7]; obtain ⟨c0, c1, c2, c3, c4, c5, c6, z0, z1, z2, z3, z4, z5, z6, zl⟩ := H1.all)
                            have H1' := Lib.hid H1
                            have hR : hdV 0 0 0 0 0 2 28 = sunHdV W H 8 t 1 0 := by
                              have : firstBad (sunChks W H 8 t 1 0) = some (2, 28) := by simp [firstBad, sunChks, SunDepth, SunMapped, p1, p2, p3, p4, r0]
                              unfold sunHdV
                              rw [this]
                              rfl
                            exact bodyPost_ret (v := hdV 0 0 0 0 0 2 28) (by simp [results, Tryz.results58, go_sem, hdV, hd7, c0, c1, c2, c3, c4, c5, c6]) rfl ⟨ret1 hR, H1'.out.store⟩
                          · have r3' : ¬ (mb : Int) = 0 := by omega
                            by_cases r4 : 768 < mb
                            · have r4' : (768 : Int) < (mb : Int) := by omega
                              have r4n : ¬ mb ≤ 768 := by omega
                              go_wp2_with (go_at_call 135; refine (refSunBad _ _ _).mono ?_; rintro e w1 ⟨rfl, b1⟩; have H1 := HG.out.2.below b1; simp only [hdV, hd7]; obtain ⟨c0, c1, c2, c3, c4, c5, c6, z0, z1, z2, z3, z4, z5, z6, zl⟩ := H1.all)
                              have H1' := Lib.hid H1
                              have hR : hdV 0 0 0 0 0 2 28 = sunHdV W H 8 t 1 mb := by
                                have : firstBad (sunChks W H 8 t 1 mb) = some (2, 28) := by simp [firstBad, sunChks, SunDepth, SunMapped, p1, p2, p3, p4, r0, r3, r4n]
                                unfold sunHdV
                                rw [this]
                                rfl
                              exact bodyPost_ret (v := hdV 0 0 0 0 0 2 28) (by simp [results, Tryz.results58, go_sem, hdV, hd7, c0, c1, c2, c3, c4, c5, c6]) rfl ⟨ret1 hR, H1'.out.store⟩
                            · have r4' : ¬ (768 : Int) < (mb : Int) := by omega
                              have r4n : mb ≤ 768 := by omega
                              have r3n : 0 < mb := by omega
                              have r3e : ((mb : Int) == 0) = false := by rw [beq_eq_false_iff_ne]; omega
                              by_cases r5 : mb % 3 = 0
                              · have r5' : ((mb : Int) % 3 != 0) = false := by rw [bne_eq_false_iff_eq]; omega
                                obtain ⟨q, hq⟩ : ∃ q, mb / 3 = q := ⟨_, rfl⟩
                                have hqI : (mb : Int) / 3 = (q : Int) := by omega
                                have hql : (q : Int) ≤ 256 := by omega
                                go_wp2_with fail
                                have H1 := HG.out.2
                                have H1' := Lib.hid H1
                                obtain ⟨c0, c1, c2, c3, c4, c5, c6, z0, z1, z2, z3, z4, z5, z6, zl⟩ := H1.all
                                clear H1
                                refine wp_region_held_drew (S := (fun wx => LN7 wx g W H 8 t 1 mb)) (by kernel_rfl) HG.out.1 (fun hHeld => ?_)
                                refine wpAnyH_take (i := 0) (v := ?_) rfl (by kernel_rfl) (by kernel_rfl) (by kernel_rfl) (fun _ _ _ h => h) (Or.inl ⟨by kernel_rfl, ?_⟩) (by assumption) ?_
                                rotate_left
                                · intro w hSw; obtain ⟨C1, C2, C3, C5, C6, C7⟩ := hSw; go_simp; (try with_reducible rfl)
                                (try simp only [Act.put, List.setIfInBounds_toArray, List.set_cons_zero, List.set_cons_succ])
                                refine wpAnyH_take (i := 1) (v := ?_) rfl (by kernel_rfl) (by kernel_rfl) (by kernel_rfl) (fun _ _ _ h => h) (Or.inl ⟨by kernel_rfl, ?_⟩) (by assumption) ?_
                                rotate_left
                                · intro w hSw; obtain ⟨C1, C2, C3, C5, C6, C7⟩ := hSw; go_simp; (try with_reducible rfl)
                                (try simp only [Act.put, List.setIfInBounds_toArray, List.set_cons_zero, List.set_cons_succ])
                                refine wpAnyH_take (i := 2) (v := ?_) rfl (by kernel_rfl) (by kernel_rfl) (by kernel_rfl) (fun _ _ _ h => h) (Or.inl ⟨by kernel_rfl, ?_⟩) (by assumption) ?_
                                rotate_left
                                · intro w hSw; obtain ⟨C1, C2, C3, C5, C6, C7⟩ := hSw; go_simp; (try with_reducible rfl)
                                (try simp only [Act.put, List.setIfInBounds_toArray, List.set_cons_zero, List.set_cons_succ])
                                refine wpAnyH_take (i := 3) (v := ?_) rfl (by kernel_rfl) (by kernel_rfl) (by kernel_rfl) (fun _ _ _ h => h) (Or.inl ⟨by kernel_rfl, ?_⟩) (by assumption) ?_
                                rotate_left
                                · intro w hSw; obtain ⟨C1, C2, C3, C5, C6, C7⟩ := hSw; go_simp; (try with_reducible rfl)
                                (try simp only [Act.put, List.setIfInBounds_toArray, List.set_cons_zero, List.set_cons_succ])
                                refine wpAnyH_take (i := 4) (v := ?_) rfl (by kernel_rfl) (by kernel_rfl) (by kernel_rfl) (fun _ _ _ h => h) (Or.inl ⟨by kernel_rfl, ?_⟩) (by assumption) ?_
                                rotate_left
                                · intro w hSw; obtain ⟨C1, C2, C3, C5, C6, C7⟩ := hSw; go_simp; (try with_reducible rfl)
                                (try simp only [Act.put, List.setIfInBounds_toArray, List.set_cons_zero, List.set_cons_succ])
                                refine wpAnyH_take (i := 5) (v := ?_) rfl (by kernel_rfl) (by kernel_rfl) (by kernel_rfl) (fun _ _ _ h => h) (Or.inl ⟨by kernel_rfl, ?_⟩) (by assumption) ?_
                                rotate_left
                                · intro w hSw; obtain ⟨C1, C2, C3, C5, C6, C7⟩ := hSw; go_simp; (try with_reducible rfl)
                                (try simp only [Act.put, List.setIfInBounds_toArray, List.set_cons_zero, List.set_cons_succ])
                                refine wpAnyH_take (i := 6) (v := ?_) rfl (by kernel_rfl) (by kernel_rfl) (by kernel_rfl) (fun _ _ _ h => h) (Or.inl ⟨by kernel_rfl, ?_⟩) (by assumption) ?_
                                rotate_left
                                · intro w hSw; obtain ⟨C1, C2, C3, C5, C6, C7⟩ := hSw; go_simp; (try with_reducible rfl)
                                (try simp only [Act.put, List.setIfInBounds_toArray, List.set_cons_zero, List.set_cons_succ])
                                refine wpAnyH_take (i := 7) (v := ?_) rfl (by kernel_rfl) (by kernel_rfl) (by kernel_rfl) (fun _ _ _ h => h) (Or.inl ⟨by kernel_rfl, ?_⟩) (by assumption) ?_
                                rotate_left
                                · intro w hSw; obtain ⟨C1, C2, C3, C5, C6, C7⟩ := hSw; go_simp; (try with_reducible rfl)
                                (try simp only [Act.put, List.setIfInBounds_toArray, List.set_cons_zero, List.set_cons_succ])
                                refine wpAnyH_take (i := 8) (v := ?_) rfl (by kernel_rfl) (by kernel_rfl) (by kernel_rfl) (fun _ _ _ h => h) (Or.inl ⟨by kernel_rfl, ?_⟩) (by assumption) ?_
                                rotate_left
                                · intro w hSw; obtain ⟨C1, C2, C3, C5, C6, C7⟩ := hSw; go_simp; (try with_reducible rfl)
                                (try simp only [Act.put, List.setIfInBounds_toArray, List.set_cons_zero, List.set_cons_succ])
                                refine wpAnyH_take (i := 9) (v := ?_) rfl (by kernel_rfl) (by kernel_rfl) (by kernel_rfl) (fun _ _ _ h => h) (Or.inl ⟨by kernel_rfl, ?_⟩) (by assumption) ?_
                                rotate_left
                                · intro w hSw; obtain ⟨C1, C2, C3, C5, C6, C7⟩ := hSw; go_simp; (try with_reducible rfl)
                                (try simp only [Act.put, List.setIfInBounds_toArray, List.set_cons_zero, List.set_cons_succ])
                                refine wpAnyH_take (i := 10) (v := ?_) rfl (by kernel_rfl) (by kernel_rfl) (by kernel_rfl) (fun _ _ _ h => h) (Or.inl ⟨by kernel_rfl, ?_⟩) (by assumption) ?_
                                rotate_left
                                · intro w hSw; obtain ⟨C1, C2, C3, C5, C6, C7⟩ := hSw; go_simp; (try with_reducible rfl)
                                (try simp only [Act.put, List.setIfInBounds_toArray, List.set_cons_zero, List.set_cons_succ])
                                refine wpAnyH_take (i := 11) (v := ?_) rfl (by kernel_rfl) (by kernel_rfl) (by kernel_rfl) (fun _ _ _ h => h) (Or.inl ⟨by kernel_rfl, ?_⟩) (by assumption) ?_
                                rotate_left
                                · intro w hSw; obtain ⟨C1, C2, C3, C5, C6, C7⟩ := hSw; go_simp; (try with_reducible rfl)
                                (try simp only [Act.put, List.setIfInBounds_toArray, List.set_cons_zero, List.set_cons_succ])
                                refine wpAnyH_take (i := 12) (v := ?_) rfl (by kernel_rfl) (by kernel_rfl) (by kernel_rfl) (fun _ _ _ h => h) (Or.inl ⟨by kernel_rfl, ?_⟩) (by assumption) ?_
                                rotate_left
                                · intro w hSw; obtain ⟨C1, C2, C3, C5, C6, C7⟩ := hSw; go_simp; (try with_reducible rfl)
                                (try simp only [Act.put, List.setIfInBounds_toArray, List.set_cons_zero, List.set_cons_succ])
                                refine wpAnyH_take (i := 13) (v := ?_) rfl (by kernel_rfl) (by kernel_rfl) (by kernel_rfl) (fun _ _ _ h => h) (Or.inl ⟨by kernel_rfl, ?_⟩) (by assumption) ?_
                                rotate_left
                                · intro w hSw; obtain ⟨C1, C2, C3, C5, C6, C7⟩ := hSw; go_simp; (try with_reducible rfl)
                                (try simp only [Act.put, List.setIfInBounds_toArray, List.set_cons_zero, List.set_cons_succ])
                                refine wpAnyH_take (i := 14) (v := ?_) rfl (by kernel_rfl) (by kernel_rfl) (by kernel_rfl) (fun _ _ _ h => h) (Or.inl ⟨by kernel_rfl, ?_⟩) (by assumption) ?_
                                rotate_left
                                · intro w hSw; obtain ⟨C1, C2, C3, C5, C6, C7⟩ := hSw; go_simp; (try with_reducible rfl)
                                (try simp only [Act.put, List.setIfInBounds_toArray, List.set_cons_zero, List.set_cons_succ])
                                refine wpAnyH_take (i := 15) (v := ?_) rfl (by kernel_rfl) (by kernel_rfl) (by kernel_rfl) (fun _ _ _ h => h) (Or.inl ⟨by kernel_rfl, ?_⟩) (by assumption) ?_
                                rotate_left
                                · intro w hSw; obtain ⟨C1, C2, C3, C5, C6, C7⟩ := hSw; go_simp; (try with_reducible rfl)
                                (try simp only [Act.put, List.setIfInBounds_toArray, List.set_cons_zero, List.set_cons_succ])
                                refine wpAnyH_take (i := 16) (v := ?_) rfl (by kernel_rfl) (by kernel_rfl) (by kernel_rfl) (fun _ _ _ h => h) (Or.inl ⟨by kernel_rfl, ?_⟩) (by assumption) ?_
                                rotate_left
                                · intro w hSw; obtain ⟨C1, C2, C3, C5, C6, C7⟩ := hSw; go_simp; (try with_reducible rfl)
                                (try simp only [Act.put, List.setIfInBounds_toArray, List.set_cons_zero, List.set_cons_succ])
                                refine wpAnyH_ready (rs := [17]) (by kernel_rfl) (by simp) ?_
                                refine AllReadyH.cons rfl (fun K hK => ?_) AllReadyH.nil
                                go_simp
                                refine hK.out _ _ (LN7.set7 hgb HG.out.1).drew (fun hHeld' => ?_)
                                clear hK K hHeld
                                have hHeld := hHeld'
                                clear hHeld'
                                (try simp only [Act.put, List.setIfInBounds_toArray, List.set_cons_zero, List.set_cons_succ])
                                refine wpAnyH_done (by kernel_rfl) ?_ _
                                (try simp only [List.getElem_toArray, List.getElem_cons_succ, List.getElem_cons_zero, List.set_cons_zero, List.set_cons_succ])
                                clear hHeld
                                go_wp2_with fail
                                have hR : hdV (W : Int) (H : Int) (8 : Int) (t : Int) (q : Int) 0 0 = sunHdV W H 8 t 1 mb := by
                                  have : firstBad (sunChks W H 8 t 1 mb) = none := by simp [firstBad, sunChks, SunDepth, SunMapped, p1, p2, p3, p4, r0, r3, r3n, r4n, r5]
                                  unfold sunHdV
                                  rw [this]
                                  rw [hq]; rfl
                                exact bodyPost_ret (v := hdV (W : Int) (H : Int) (8 : Int) (t : Int) (q : Int) 0 0) (by simp [results, Tryz.results58, go_sem, hdV, hd7, c0, c1, c2, c3, c4, c5, c6]; (first | rfl | exact IntWalk.i64_in _ (by omega))) rfl ⟨ret1 hR, H1'.out.store.drew⟩
                              · have r5' : ((mb : Int) % 3 != 0) = true := by rw [bne_iff_ne]; omega
                                go_wp2_with (go_at_call 135; refine (refSunBad _ _ _).mono ?_; rintro e w1 ⟨rfl, b1⟩; have H1 := HG.out.2.below b1; simp only [hdV, hd7]; obtain ⟨c0, c1, c2, c3, c4, c5, c6, z0, z1, z2, z3, z4, z5, z6, zl⟩ := H1.all)
                                have H1' := Lib.hid H1
                                have hR : hdV 0 0 0 0 0 2 28 = sunHdV W H 8 t 1 mb := by
                                  have : firstBad (sunChks W H 8 t 1 mb) = some (2, 28) := by simp [firstBad, sunChks, SunDepth, SunMapped, p1, p2, p3, p4, r0, r3, r4n, r5]
                                  unfold sunHdV
                                  rw [this]
                                  rfl
                                exact bodyPost_ret (v := hdV 0 0 0 0 0 2 28) (by simp [results, Tryz.results58, go_sem, hdV, hd7, c0, c1, c2, c3, c4, c5, c6]) rfl ⟨ret1 hR, H1'.out.store⟩
                  ·
                    by_cases r0 : 3 < t
                    · have r0' : (3 : Int) < (t : Int) := by omega
                      go_wp2_with (go_at_call 135; refine (refSunBad _ _ _).mono ?_; rintro e w1 ⟨rfl, b1⟩; have H1 := HG.out.2.below b1; simp only [hdV, hd7]; obtain ⟨c0, c1, c2, c3, c4, c5, c6, z0, z1, z2, z3, z4, z5, z6, zl⟩ := H1.all)
                      have H1' := Lib.hid H1
                      have hR : hdV 0 0 0 0 0 3 20 = sunHdV W H 24 t mk mb := by
                        have : firstBad (sunChks W H 24 t mk mb) = some (3, 20) := by simp [firstBad, sunChks, SunDepth, SunMapped, p1, p2, p3, p4, r0]
                        unfold sunHdV
                        rw [this]
                        rfl
                      exact bodyPost_ret (v := hdV 0 0 0 0 0 3 20) (by simp [results, Tryz.results58, go_sem, hdV, hd7, c0, c1, c2, c3, c4, c5, c6]) rfl ⟨ret1 hR, H1'.out.store⟩
                    · have r0' : ¬ (3 : Int) < (t : Int) := by omega
                      by_cases r1 : 1 < mk
                      · have r1' : (1 : Int) < (mk : Int) := by omega
                        go_wp2_with (go_at_call 135; refine (refSunBad _ _ _).mono ?_; rintro e w1 ⟨rfl, b1⟩; have H1 := HG.out.2.below b1; simp only [hdV, hd7]; obtain ⟨c0, c1, c2, c3, c4, c5, c6, z0, z1, z2, z3, z4, z5, z6, zl⟩ := H1.all)
                        have H1' := Lib.hid H1
                        have hR : hdV 0 0 0 0 0 3 24 = sunHdV W H 24 t mk mb := by
                          have : firstBad (sunChks W H 24 t mk mb) = some (3, 24) := by simp [firstBad, sunChks, SunDepth, SunMapped, p1, p2, p3, p4, r0, r1]
                          unfold sunHdV
                          rw [this]
                          rfl
                        exact bodyPost_ret (v := hdV 0 0 0 0 0 3 24) (by simp [results, Tryz.results58, go_sem, hdV, hd7, c0, c1, c2, c3, c4, c5, c6]) rfl ⟨ret1 hR, H1'.out.store⟩
                      · have r1' : ¬ (1 : Int) < (mk : Int) := by omega
                        by_cases r2 : mk = 0
                        · subst r2
                          by_cases r3 : mb = 0
                          · subst r3
                            go_wp2_with fail
                            have H1 := HG.out.2
                            have H1' := Lib.hid H1
                            obtain ⟨c0, c1, c2, c3, c4, c5, c6, z0, z1, z2, z3, z4, z5, z6, zl⟩ := H1.all
                            clear H1
                            refine wp_region_held_drew (S := (fun wx => LN7 wx g W H 24 t 0 0)) (by kernel_rfl) HG.out.1 (fun hHeld => ?_)
                            refine wpAnyH_take (i := 0) (v := ?_) rfl (by kernel_rfl) (by kernel_rfl) (by kernel_rfl) (fun _ _ _ h => h) (Or.inl ⟨by kernel_rfl, ?_⟩) (by assumption) ?_
                            rotate_left
                            · intro w hSw; obtain ⟨C1, C2, C3, C5, C6, C7⟩ := hSw; go_simp; (try with_reducible rfl)
                            (try simp only [Act.put, List.setIfInBounds_toArray, List.set_cons_zero, List.set_cons_succ])
                            refine wpAnyH_take (i := 1) (v := ?_) rfl (by kernel_rfl) (by kernel_rfl) (by kernel_rfl) (fun _ _ _ h => h) (Or.inl ⟨by kernel_rfl, ?_⟩) (by assumption) ?_
                            rotate_left
                            · intro w hSw; obtain ⟨C1, C2, C3, C5, C6, C7⟩ := hSw; go_simp; (try with_reducible rfl)
                            (try simp only [Act.put, List.setIfInBounds_toArray, List.set_cons_zero, List.set_cons_succ])
                            refine wpAnyH_take (i := 2) (v := ?_) rfl (by kernel_rfl) (by kernel_rfl) (by kernel_rfl) (fun _ _ _ h => h) (Or.inl ⟨by kernel_rfl, ?_⟩) (by assumption) ?_
                            rotate_left
                            · intro w hSw; obtain ⟨C1, C2, C3, C5, C6, C7⟩ := hSw; go_simp; (try with_reducible rfl)
                            (try simp only [Act.put, List.setIfInBounds_toArray, List.set_cons_zero, List.set_cons_succ])
                            refine wpAnyH_take (i := 3) (v := ?_) rfl (by kernel_rfl) (by kernel_rfl) (by kernel_rfl) (fun _ _ _ h => h) (Or.inl ⟨by kernel_rfl, ?_⟩) (by assumption) ?_
                            rotate_left
                            · intro w hSw; obtain ⟨C1, C2, C3, C5, C6, C7⟩ := hSw; go_simp; (try with_reducible rfl)
                            (try simp only [Act.put, List.setIfInBounds_toArray, List.set_cons_zero, List.set_cons_succ])
                            refine wpAnyH_take (i := 4) (v := ?_) rfl (by kernel_rfl) (by kernel_rfl) (by kernel_rfl) (fun _ _ _ h => h) (Or.inl ⟨by kernel_rfl, ?_⟩) (by assumption) ?_
                            rotate_left
                            · intro w hSw; obtain ⟨C1, C2, C3, C5, C6, C7⟩ := hSw; go_simp; (try with_reducible rfl)
                            (try simp only [Act.put, List.setIfInBounds_toArray, List.set_cons_zero, List.set_cons_succ])
                            refine wpAnyH_take (i := 5) (v := ?_) rfl (by kernel_rfl) (by kernel_rfl) (by kernel_rfl) (fun _ _ _ h => h) (Or.inl ⟨by kernel_rfl, ?_⟩) (by assumption) ?_
                            rotate_left
                            · intro w hSw; obtain ⟨C1, C2, C3, C5, C6, C7⟩ := hSw; go_simp; (try with_reducible rfl)
                            (try simp only [Act.put, List.setIfInBounds_toArray, List.set_cons_zero, List.set_cons_succ])
                            refine wpAnyH_take (i := 6) (v := ?_) rfl (by kernel_rfl) (by kernel_rfl) (by kernel_rfl) (fun _ _ _ h => h) (Or.inl ⟨by kernel_rfl, ?_⟩) (by assumption) ?_
                            rotate_left
                            · intro w hSw; obtain ⟨C1, C2, C3, C5, C6, C7⟩ := hSw; go_simp; (try with_reducible rfl)
                            (try simp only [Act.put, List.setIfInBounds_toArray, List.set_cons_zero, List.set_cons_succ])
                            refine wpAnyH_take (i := 7) (v := ?_) rfl (by kernel_rfl) (by kernel_rfl) (by kernel_rfl) (fun _ _ _ h => h) (Or.inl ⟨by kernel_rfl, ?_⟩) (by assumption) ?_
                            rotate_left
                            · intro w hSw; obtain ⟨C1, C2, C3, C5, C6, C7⟩ := hSw; go_simp; (try with_reducible rfl)
                            (try simp only [Act.put, List.setIfInBounds_toArray, List.set_cons_zero, List.set_cons_succ])
                            refine wpAnyH_take (i := 8) (v := ?_) rfl (by kernel_rfl) (by kernel_rfl) (by kernel_rfl) (fun _ _ _ h => h) (Or.inl ⟨by kernel_rfl, ?_⟩) (by assumption) ?_
                            rotate_left
                            · intro w hSw; obtain ⟨C1, C2, C3, C5, C6, C7⟩ := hSw; go_simp; (try with_reducible rfl)
                            (try simp only [Act.put, List.setIfInBounds_toArray, List.set_cons_zero, List.set_cons_succ])
                            refine wpAnyH_take (i := 9) (v := ?_) rfl (by kernel_rfl) (by kernel_rfl) (by kernel_rfl) (fun _ _ _ h => h) (Or.inl ⟨by kernel_rfl, ?_⟩) (by assumption) ?_
                            rotate_left
                            · intro w hSw; obtain ⟨C1, C2, C3, C5, C6, C7⟩ := hSw; go_simp; (try with_reducible rfl)
                            (try simp only [Act.put, List.setIfInBounds_toArray, List.set_cons_zero, List.set_cons_succ])
                            refine wpAnyH_take (i := 10) (v := ?_) rfl (by kernel_rfl) (by kernel_rfl) (by kernel_rfl) (fun _ _ _ h => h) (Or.inl ⟨by kernel_rfl, ?_⟩) (by assumption) ?_
                            rotate_left
                            · intro w hSw; obtain ⟨C1, C2, C3, C5, C6, C7⟩ := hSw; go_simp; (try with_reducible rfl)
                            (try simp only [Act.put, List.setIfInBounds_toArray, List.set_cons_zero, List.set_cons_succ])
                            refine wpAnyH_take (i := 11) (v := ?_) rfl (by kernel_rfl) (by kernel_rfl) (by kernel_rfl) (fun _ _ _ h => h) (Or.inl ⟨by kernel_rfl, ?_⟩) (by assumption) ?_
                            rotate_left
                            · intro w hSw; obtain ⟨C1, C2, C3, C5, C6, C7⟩ := hSw; go_simp; (try with_reducible rfl)
                            (try simp only [Act.put, List.setIfInBounds_toArray, List.set_cons_zero, List.set_cons_succ])
                            refine wpAnyH_take (i := 12) (v := ?_) rfl (by kernel_rfl) (by kernel_rfl) (by kernel_rfl) (fun _ _ _ h => h) (Or.inl ⟨by kernel_rfl, ?_⟩) (by assumption) ?_
                            rotate_left
                            · intro w hSw; obtain ⟨C1, C2, C3, C5, C6, C7⟩ := hSw; go_simp; (try with_reducible rfl)
                            (try simp only [Act.put, List.setIfInBounds_toArray, List.set_cons_zero, List.set_cons_succ])
                            refine wpAnyH_take (i := 13) (v := ?_) rfl (by kernel_rfl) (by kernel_rfl) (by kernel_rfl) (fun _ _ _ h => h) (Or.inl ⟨by kernel_rfl, ?_⟩) (by assumption) ?_
                            rotate_left
                            · intro w hSw; obtain ⟨C1, C2, C3, C5, C6, C7⟩ := hSw; go_simp; (try with_reducible rfl)
                            (try simp only [Act.put, List.setIfInBounds_toArray, List.set_cons_zero, List.set_cons_succ])
                            refine wpAnyH_take (i := 14) (v := ?_) rfl (by kernel_rfl) (by kernel_rfl) (by kernel_rfl) (fun _ _ _ h => h) (Or.inl ⟨by kernel_rfl, ?_⟩) (by assumption) ?_
                            rotate_left
                            · intro w hSw; obtain ⟨C1, C2, C3, C5, C6, C7⟩ := hSw; go_simp; (try with_reducible rfl)
                            (try simp only [Act.put, List.setIfInBounds_toArray, List.set_cons_zero, List.set_cons_succ])
                            refine wpAnyH_take (i := 15) (v := ?_) rfl (by kernel_rfl) (by kernel_rfl) (by kernel_rfl) (fun _ _ _ h => h) (Or.inl ⟨by kernel_rfl, ?_⟩) (by assumption) ?_
                            rotate_left
                            · intro w hSw; obtain ⟨C1, C2, C3, C5, C6, C7⟩ := hSw; go_simp; (try with_reducible rfl)
                            (try simp only [Act.put, List.setIfInBounds_toArray, List.set_cons_zero, List.set_cons_succ])
                            refine wpAnyH_take (i := 16) (v := ?_) rfl (by kernel_rfl) (by kernel_rfl) (by kernel_rfl) (fun _ _ _ h => h) (Or.inl ⟨by kernel_rfl, ?_⟩) (by assumption) ?_
                            rotate_left
                            · intro w hSw; obtain ⟨C1, C2, C3, C5, C6, C7⟩ := hSw; go_simp; (try with_reducible rfl)
                            (try simp only [Act.put, List.setIfInBounds_toArray, List.set_cons_zero, List.set_cons_succ])
                            refine wpAnyH_ready (rs := [17]) (by kernel_rfl) (by simp) ?_
                            refine AllReadyH.cons rfl (fun K hK => ?_) AllReadyH.nil
                            go_simp
                            refine hK.out _ _ (LN7.set7 hgb HG.out.1).drew (fun hHeld' => ?_)
                            clear hK K hHeld
                            have hHeld := hHeld'
                            clear hHeld'
                            (try simp only [Act.put, List.setIfInBounds_toArray, List.set_cons_zero, List.set_cons_succ])
                            refine wpAnyH_done (by kernel_rfl) ?_ _
                            (try simp only [List.getElem_toArray, List.getElem_cons_succ, List.getElem_cons_zero, List.set_cons_zero, List.set_cons_succ])
                            clear hHeld
                            go_wp2_with fail
                            have hR : hdV (W : Int) (H : Int) (24 : Int) (t : Int) (0 : Int) 0 0 = sunHdV W H 24 t 0 0 := by
                              have : firstBad (sunChks W H 24 t 0 0) = none := by simp [firstBad, sunChks, SunDepth, SunMapped, p1, p2, p3, p4, r0]
                              unfold sunHdV
                              rw [this]
                              rfl
                            exact bodyPost_ret (v := hdV (W : Int) (H : Int) (24 : Int) (t : Int) (0 : Int) 0 0) (by simp [results, Tryz.results58, go_sem, hdV, hd7, c0, c1, c2, c3, c4, c5, c6]; (first | rfl | exact IntWalk.i64_in _ (by omega))) rfl ⟨ret1 hR, H1'.out.store.drew⟩
                          · have r3' : ¬ (mb : Int) = 0 := by omega
                            go_wp2_with (go_at_call 135; refine (refSunBad _ _ _).mono ?_; rintro e w1 ⟨rfl, b1⟩; have H1 := HG.out.2.below b1; simp only [hdV, hd7]; obtain ⟨c0, c1, c2, c3, c4, c5, c6, z0, z1, z2, z3, z4, z5, z6, zl⟩ := H1.all)
                            have H1' := Lib.hid H1
                            have hR : hdV 0 0 0 0 0 2 28 = sunHdV W H 24 t 0 mb := by
                              have : firstBad (sunChks W H 24 t 0 mb) = some (2, 28) := by simp [firstBad, sunChks, SunDepth, SunMapped, p1, p2, p3, p4, r0, r3]
                              unfold sunHdV
                              rw [this]
                              rfl
                            exact bodyPost_ret (v := hdV 0 0 0 0 0 2 28) (by simp [results, Tryz.results58, go_sem, hdV, hd7, c0, c1, c2, c3, c4, c5, c6]) rfl ⟨ret1 hR, H1'.out.store⟩
                        · obtain rfl : mk = 1 := by omega
                          by_cases r3 : mb = 0
                          · subst r3
                            go_wp2_with (go_at_call 135; refine (refSunBad _ _ _).mono ?_; rintro e w1 ⟨rfl, b1⟩; have H1 := HG.out.2.below b1; simp only [hdV, hd7]; obtain ⟨c0, c1, c2, c3, c4, c5, c6, z0, z1, z2, z3, z4, z5, z6, zl⟩ := H1.all)
                            have H1' := Lib.hid H1
                            have hR : hdV 0 0 0 0 0 2 28 = sunHdV W H 24 t 1 0 := by
                              have : firstBad (sunChks W H 24 t 1 0) = some (2, 28) := by simp [firstBad, sunChks, SunDepth, SunMapped, p1, p2, p3, p4, r0]
                              unfold sunHdV
                              rw [this]
                              rfl
                            exact bodyPost_ret (v := hdV 0 0 0 0 0 2 28) (by simp [results, Tryz.results58, go_sem, hdV, hd7, c0, c1, c2, c3, c4, c5, c6]) rfl ⟨ret1 hR, H1'.out.store⟩
                          · have r3' : ¬ (mb : Int) = 0 := by omega
                            by_cases r4 : 768 < mb
                            · have r4' : (768 : Int) < (mb : Int) := by omega
                              have r4n : ¬ mb ≤ 768 := by omega
                              go_wp2_with (go_at_call 135; refine (refSunBad _ _ _).mono ?_; rintro e w1 ⟨rfl, b1⟩; have H1 := HG.out.2.below b1; simp only [hdV, hd7]; obtain ⟨c0, c1, c2, c3, c4, c5, c6, z0, z1, z2, z3, z4, z5, z6, zl⟩ := H1.all)
                              have H1' := Lib.hid H1
                              have hR : hdV 0 0 0 0 0 2 28 = sunHdV W H 24 t 1 mb := by
                                have : firstBad (sunChks W H 24 t 1 mb) = some (2, 28) := by simp [firstBad, sunChks, SunDepth, SunMapped, p1, p2, p3, p4, r0, r3, r4n]
                                unfold sunHdV
                                rw [this]
                                rfl
                              exact bodyPost_ret (v := hdV 0 0 0 0 0 2 28) (by simp [results, Tryz.results58, go_sem, hdV, hd7, c0, c1, c2, c3, c4, c5, c6]) rfl ⟨ret1 hR, H1'.out.store⟩
                            · have r4' : ¬ (768 : Int) < (mb : Int) := by omega
                              have r4n : mb ≤ 768 := by omega
                              have r3n : 0 < mb := by omega
                              have r3e : ((mb : Int) == 0) = false := by rw [beq_eq_false_iff_ne]; omega
                              by_cases r5 : mb % 3 = 0
                              · have r5' : ((mb : Int) % 3 != 0) = false := by rw [bne_eq_false_iff_eq]; omega
                                obtain ⟨q, hq⟩ : ∃ q, mb / 3 = q := ⟨_, rfl⟩
                                have hqI : (mb : Int) / 3 = (q : Int) := by omega
                                have hql : (q : Int) ≤ 256 := by omega
                                go_wp2_with fail
                                have H1 := HG.out.2
                                have H1' := Lib.hid H1
                                obtain ⟨c0, c1, c2, c3, c4, c5, c6, z0, z1, z2, z3, z4, z5, z6, zl⟩ := H1.all
                                clear H1
                                refine wp_region_held_drew (S := (fun wx => LN7 wx g W H 24 t 1 mb)) (by kernel_rfl) HG.out.1 (fun hHeld => ?_)
                                refine wpAnyH_take (i := 0) (v := ?_) rfl (by kernel_rfl) (by kernel_rfl) (by kernel_rfl) (fun _ _ _ h => h) (Or.inl ⟨by kernel_rfl, ?_⟩) (by assumption) ?_
                                rotate_left
                                · intro w hSw; obtain ⟨C1, C2, C3, C5, C6, C7⟩ := hSw; go_simp; (try with_reducible rfl)
                                (try simp only [Act.put, List.setIfInBounds_toArray, List.set_cons_zero, List.set_cons_succ])
                                refine wpAnyH_take (i := 1) (v := ?_) rfl (by kernel_rfl) (by kernel_rfl) (by kernel_rfl) (fun _ _ _ h => h) (Or.inl ⟨by kernel_rfl, ?_⟩) (by assumption) ?_
                                rotate_left
                                · intro w hSw; obtain ⟨C1, C2, C3, C5, C6, C7⟩ := hSw; go_simp; (try with_reducible rfl)
                                (try simp only [Act.put, List.setIfInBounds_toArray, List.set_cons_zero, List.set_cons_succ])
                                refine wpAnyH_take (i := 2) (v := ?_) rfl (by kernel_rfl) (by kernel_rfl) (by kernel_rfl) (fun _ _ _ h => h) (Or.inl ⟨by kernel_rfl, ?_⟩) (by assumption) ?_
                                rotate_left
                                · intro w hSw; obtain ⟨C1, C2, C3, C5, C6, C7⟩ := hSw; go_simp; (try with_reducible rfl)
                                (try simp only [Act.put, List.setIfInBounds_toArray, List.set_cons_zero, List.set_cons_succ])
                                refine wpAnyH_take (i := 3) (v := ?_) rfl (by kernel_rfl) (by kernel_rfl) (by kernel_rfl) (fun _ _ _ h => h) (Or.inl ⟨by kernel_rfl, ?_⟩) (by assumption) ?_
                                rotate_left
                                · intro w hSw; obtain ⟨C1, C2, C3, C5, C6, C7⟩ := hSw; go_simp; (try with_reducible rfl)
                                (try simp only [Act.put, List.setIfInBounds_toArray, List.set_cons_zero, List.set_cons_succ])
                                refine wpAnyH_take (i := 4) (v := ?_) rfl (by kernel_rfl) (by kernel_rfl) (by kernel_rfl) (fun _ _ _ h => h) (Or.inl ⟨by kernel_rfl, ?_⟩) (by assumption) ?_
                                rotate_left
                                · intro w hSw; obtain ⟨C1, C2, C3, C5, C6, C7⟩ := hSw; go_simp; (try with_reducible rfl)
                                (try simp only [Act.put, List.setIfInBounds_toArray, List.set_cons_zero, List.set_cons_succ])
                                refine wpAnyH_take (i := 5) (v := ?_) rfl (by kernel_rfl) (by kernel_rfl) (by kernel_rfl) (fun _ _ _ h => h) (Or.inl ⟨by kernel_rfl, ?_⟩) (by assumption) ?_
                                rotate_left
                                · intro w hSw; obtain ⟨C1, C2, C3, C5, C6, C7⟩ := hSw; go_simp; (try with_reducible rfl)
                                (try simp only [Act.put, List.setIfInBounds_toArray, List.set_cons_zero, List.set_cons_succ])
                                refine wpAnyH_take (i := 6) (v := ?_) rfl (by kernel_rfl) (by kernel_rfl) (by kernel_rfl) (fun _ _ _ h => h) (Or.inl ⟨by kernel_rfl, ?_⟩) (by assumption) ?_
                                rotate_left
                                · intro w hSw; obtain ⟨C1, C2, C3, C5, C6, C7⟩ := hSw; go_simp; (try with_reducible rfl)
                                (try simp only [Act.put, List.setIfInBounds_toArray, List.set_cons_zero, List.set_cons_succ])
                                refine wpAnyH_take (i := 7) (v := ?_) rfl (by kernel_rfl) (by kernel_rfl) (by kernel_rfl) (fun _ _ _ h => h) (Or.inl ⟨by kernel_rfl, ?_⟩) (by assumption) ?_
                                rotate_left
                                · intro w hSw; obtain ⟨C1, C2, C3, C5, C6, C7⟩ := hSw; go_simp; (try with_reducible rfl)
                                (try simp only [Act.put, List.setIfInBounds_toArray, List.set_cons_zero, List.set_cons_succ])
                                refine wpAnyH_take (i := 8) (v := ?_) rfl (by kernel_rfl) (by kernel_rfl) (by kernel_rfl) (fun _ _ _ h => h) (Or.inl ⟨by kernel_rfl, ?_⟩) (by assumption) ?_
                                rotate_left
                                · intro w hSw; obtain ⟨C1, C2, C3, C5, C6, C7⟩ := hSw; go_simp; (try with_reducible rfl)
                                (try simp only [Act.put, List.setIfInBounds_toArray, List.set_cons_zero, List.set_cons_succ])
                                refine wpAnyH_take (i := 9) (v := ?_) rfl (by kernel_rfl) (by kernel_rfl) (by kernel_rfl) (fun _ _ _ h => h) (Or.inl ⟨by kernel_rfl, ?_⟩) (by assumption) ?_
                                rotate_left
                                · intro w hSw; obtain ⟨C1, C2, C3, C5, C6, C7⟩ := hSw; go_simp; (try with_reducible rfl)
                                (try simp only [Act.put, List.setIfInBounds_toArray, List.set_cons_zero, List.set_cons_succ])
                                refine wpAnyH_take (i := 10) (v := ?_) rfl (by kernel_rfl) (by kernel_rfl) (by kernel_rfl) (fun _ _ _ h => h) (Or.inl ⟨by kernel_rfl, ?_⟩) (by assumption) ?_
                                rotate_left
                                · intro w hSw; obtain ⟨C1, C2, C3, C5, C6, C7⟩ := hSw; go_simp; (try with_reducible rfl)
                                (try simp only [Act.put, List.setIfInBounds_toArray, List.set_cons_zero, List.set_cons_succ])
                                refine wpAnyH_take (i := 11) (v := ?_) rfl (by kernel_rfl) (by kernel_rfl) (by kernel_rfl) (fun _ _ _ h => h) (Or.inl ⟨by kernel_rfl, ?_⟩) (by assumption) ?_
                                rotate_left
                                · intro w hSw; obtain ⟨C1, C2, C3, C5, C6, C7⟩ := hSw; go_simp; (try with_reducible rfl)
                                (try simp only [Act.put, List.setIfInBounds_toArray, List.set_cons_zero, List.set_cons_succ])
                                refine wpAnyH_take (i := 12) (v := ?_) rfl (by kernel_rfl) (by kernel_rfl) (by kernel_rfl) (fun _ _ _ h => h) (Or.inl ⟨by kernel_rfl, ?_⟩) (by assumption) ?_
                                rotate_left
                                · intro w hSw; obtain ⟨C1, C2, C3, C5, C6, C7⟩ := hSw; go_simp; (try with_reducible rfl)
                                (try simp only [Act.put, List.setIfInBounds_toArray, List.set_cons_zero, List.set_cons_succ])
                                refine wpAnyH_take (i := 13) (v := ?_) rfl (by kernel_rfl) (by kernel_rfl) (by kernel_rfl) (fun _ _ _ h => h) (Or.inl ⟨by kernel_rfl, ?_⟩) (by assumption) ?_
                                rotate_left
                                · intro w hSw; obtain ⟨C1, C2, C3, C5, C6, C7⟩ := hSw; go_simp; (try with_reducible rfl)
                                (try simp only [Act.put, List.setIfInBounds_toArray, List.set_cons_zero, List.set_cons_succ])
                                refine wpAnyH_take (i := 14) (v := ?_) rfl (by kernel_rfl) (by kernel_rfl) (by kernel_rfl) (fun _ _ _ h => h) (Or.inl ⟨by kernel_rfl, ?_⟩) (by assumption) ?_
                                rotate_left
                                · intro w hSw; obtain ⟨C1, C2, C3, C5, C6, C7⟩ := hSw; go_simp; (try with_reducible rfl)
                                (try simp only [Act.put, List.setIfInBounds_toArray, List.set_cons_zero, List.set_cons_succ])
                                refine wpAnyH_take (i := 15) (v := ?_) rfl (by kernel_rfl) (by kernel_rfl) (by kernel_rfl) (fun _ _ _ h => h) (Or.inl ⟨by kernel_rfl, ?_⟩) (by assumption) ?_
                                rotate_left
                                · intro w hSw; obtain ⟨C1, C2, C3, C5, C6, C7⟩ := hSw; go_simp; (try with_reducible rfl)
                                (try simp only [Act.put, List.setIfInBounds_toArray, List.set_cons_zero, List.set_cons_succ])
                                refine wpAnyH_take (i := 16) (v := ?_) rfl (by kernel_rfl) (by kernel_rfl) (by kernel_rfl) (fun _ _ _ h => h) (Or.inl ⟨by kernel_rfl, ?_⟩) (by assumption) ?_
                                rotate_left
                                · intro w hSw; obtain ⟨C1, C2, C3, C5, C6, C7⟩ := hSw; go_simp; (try with_reducible rfl)
                                (try simp only [Act.put, List.setIfInBounds_toArray, List.set_cons_zero, List.set_cons_succ])
                                refine wpAnyH_ready (rs := [17]) (by kernel_rfl) (by simp) ?_
                                refine AllReadyH.cons rfl (fun K hK => ?_) AllReadyH.nil
                                go_simp
                                refine hK.out _ _ (LN7.set7 hgb HG.out.1).drew (fun hHeld' => ?_)
                                clear hK K hHeld
                                have hHeld := hHeld'
                                clear hHeld'
                                (try simp only [Act.put, List.setIfInBounds_toArray, List.set_cons_zero, List.set_cons_succ])
                                refine wpAnyH_done (by kernel_rfl) ?_ _
                                (try simp only [List.getElem_toArray, List.getElem_cons_succ, List.getElem_cons_zero, List.set_cons_zero, List.set_cons_succ])
                                clear hHeld
                                go_wp2_with fail
                                have hR : hdV (W : Int) (H : Int) (24 : Int) (t : Int) (q : Int) 0 0 = sunHdV W H 24 t 1 mb := by
                                  have : firstBad (sunChks W H 24 t 1 mb) = none := by simp [firstBad, sunChks, SunDepth, SunMapped, p1, p2, p3, p4, r0, r3, r3n, r4n, r5]
                                  unfold sunHdV
                                  rw [this]
                                  rw [hq]; rfl
                                exact bodyPost_ret (v := hdV (W : Int) (H : Int) (24 : Int) (t : Int) (q : Int) 0 0) (by simp [results, Tryz.results58, go_sem, hdV, hd7, c0, c1, c2, c3, c4, c5, c6]; (first | rfl | exact IntWalk.i64_in _ (by omega))) rfl ⟨ret1 hR, H1'.out.store.drew⟩
                              · have r5' : ((mb : Int) % 3 != 0) = true := by rw [bne_iff_ne]; omega
                                go_wp2_with (go_at_call 135; refine (refSunBad _ _ _).mono ?_; rintro e w1 ⟨rfl, b1⟩; have H1 := HG.out.2.below b1; simp only [hdV, hd7]; obtain ⟨c0, c1, c2, c3, c4, c5, c6, z0, z1, z2, z3, z4, z5, z6, zl⟩ := H1.all)
                                have H1' := Lib.hid H1
                                have hR : hdV 0 0 0 0 0 2 28 = sunHdV W H 24 t 1 mb := by
                                  have : firstBad (sunChks W H 24 t 1 mb) = some (2, 28) := by simp [firstBad, sunChks, SunDepth, SunMapped, p1, p2, p3, p4, r0, r3, r4n, r5]
                                  unfold sunHdV
                                  rw [this]
                                  rfl
                                exact bodyPost_ret (v := hdV 0 0 0 0 0 2 28) (by simp [results, Tryz.results58, go_sem, hdV, hd7, c0, c1, c2, c3, c4, c5, c6]) rfl ⟨ret1 hR, H1'.out.store⟩
                  ·
                    by_cases r0 : 3 < t
                    · have r0' : (3 : Int) < (t : Int) := by omega
                      go_wp2_with (go_at_call 135; refine (refSunBad _ _ _).mono ?_; rintro e w1 ⟨rfl, b1⟩; have H1 := HG.out.2.below b1; simp only [hdV, hd7]; obtain ⟨c0, c1, c2, c3, c4, c5, c6, z0, z1, z2, z3, z4, z5, z6, zl⟩ := H1.all)
                      have H1' := Lib.hid H1
                      have hR : hdV 0 0 0 0 0 3 20 = sunHdV W H 32 t mk mb := by
                        have : firstBad (sunChks W H 32 t mk mb) = some (3, 20) := by simp [firstBad, sunChks, SunDepth, SunMapped, p1, p2, p3, p4, r0]
                        unfold sunHdV
                        rw [this]
                        rfl
                      exact bodyPost_ret (v := hdV 0 0 0 0 0 3 20) (by simp [results, Tryz.results58, go_sem, hdV, hd7, c0, c1, c2, c3, c4, c5, c6]) rfl ⟨ret1 hR, H1'.out.store⟩
                    · have r0' : ¬ (3 : Int) < (t : Int) := by omega
                      by_cases r1 : 1 < mk
                      · have r1' : (1 : Int) < (mk : Int) := by omega
                        go_wp2_with (go_at_call 135; refine (refSunBad _ _ _).mono ?_; rintro e w1 ⟨rfl, b1⟩; have H1 := HG.out.2.below b1; simp only [hdV, hd7]; obtain ⟨c0, c1, c2, c3, c4, c5, c6, z0, z1, z2, z3, z4, z5, z6, zl⟩ := H1.all)
                        have H1' := Lib.hid H1
                        have hR : hdV 0 0 0 0 0 3 24 = sunHdV W H 32 t mk mb := by
                          have : firstBad (sunChks W H 32 t mk mb) = some (3, 24) := by simp [firstBad, sunChks, SunDepth, SunMapped, p1, p2, p3, p4, r0, r1]
                          unfold sunHdV
                          rw [this]
                          rfl
                        exact bodyPost_ret (v := hdV 0 0 0 0 0 3 24) (by simp [results, Tryz.results58, go_sem, hdV, hd7, c0, c1, c2, c3, c4, c5, c6]) rfl ⟨ret1 hR, H1'.out.store⟩
                      · have r1' : ¬ (1 : Int) < (mk : Int) := by omega
                        by_cases r2 : mk = 0
                        · subst r2
                          by_cases r3 : mb = 0
                          · subst r3
                            go_wp2_with fail
                            have H1 := HG.out.2
                            have H1' := Lib.hid H1
                            obtain ⟨c0, c1, c2, c3, c4, c5, c6, z0, z1, z2, z3, z4, z5, z6, zl⟩ := H1.all
                            clear H1
                            refine wp_region_held_drew (S := (fun wx => LN7 wx g W H 32 t 0 0)) (by kernel_rfl) HG.out.1 (fun hHeld => ?_)
                            refine wpAnyH_take (i := 0) (v := ?_) rfl (by kernel_rfl) (by kernel_rfl) (by kernel_rfl) (fun _ _ _ h => h) (Or.inl ⟨by kernel_rfl, ?_⟩) (by assumption) ?_
                            rotate_left
                            · intro w hSw; obtain ⟨C1, C2, C3, C5, C6, C7⟩ := hSw; go_simp; (try with_reducible rfl)
                            (try simp only [Act.put, List.setIfInBounds_toArray, List.set_cons_zero, List.set_cons_succ])
                            refine wpAnyH_take (i := 1) (v := ?_) rfl (by kernel_rfl) (by kernel_rfl) (by kernel_rfl) (fun _ _ _ h => h) (Or.inl ⟨by kernel_rfl, ?_⟩) (by assumption) ?_
                            rotate_left
                            · intro w hSw; obtain ⟨C1, C2, C3, C5, C6, C7⟩ := hSw; go_simp; (try with_reducible rfl)
                            (try simp only [Act.put, List.setIfInBounds_toArray, List.set_cons_zero, List.set_cons_succ])
                            refine wpAnyH_take (i := 2) (v := ?_) rfl (by kernel_rfl) (by kernel_rfl) (by kernel_rfl) (fun _ _ _ h => h) (Or.inl ⟨by kernel_rfl, ?_⟩) (by assumption) ?_
                            rotate_left
                            · intro w hSw; obtain ⟨C1, C2, C3, C5, C6, C7⟩ := hSw; go_simp; (try with_reducible rfl)
                            (try simp only [Act.put, List.setIfInBounds_toArray, List.set_cons_zero, List.set_cons_succ])
                            refine wpAnyH_take (i := 3) (v := ?_) rfl (by kernel_rfl) (by kernel_rfl) (by kernel_rfl) (fun _ _ _ h => h) (Or.inl ⟨by kernel_rfl, ?_⟩) (by assumption) ?_
                            rotate_left
                            · intro w hSw; obtain ⟨C1, C2, C3, C5, C6, C7⟩ := hSw; go_simp; (try with_reducible rfl)
                            (try simp only [Act.put, List.setIfInBounds_toArray, List.set_cons_zero, List.set_cons_succ])
                            refine wpAnyH_take (i := 4) (v := ?_) rfl (by kernel_rfl) (by kernel_rfl) (by kernel_rfl) (fun _ _ _ h => h) (Or.inl ⟨by kernel_rfl, ?_⟩) (by assumption) ?_
                            rotate_left
                            · intro w hSw; obtain ⟨C1, C2, C3, C5, C6, C7⟩ := hSw; go_simp; (try with_reducible rfl)
                            (try simp only [Act.put, List.setIfInBounds_toArray, List.set_cons_zero, List.set_cons_succ])
                            refine wpAnyH_take (i := 5) (v := ?_) rfl (by kernel_rfl) (by kernel_rfl) (by kernel_rfl) (fun _ _ _ h => h) (Or.inl ⟨by kernel_rfl, ?_⟩) (by assumption) ?_
                            rotate_left
                            · intro w hSw; obtain ⟨C1, C2, C3, C5, C6, C7⟩ := hSw; go_simp; (try with_reducible rfl)
                            (try simp only [Act.put, List.setIfInBounds_toArray, List.set_cons_zero, List.set_cons_succ])
                            refine wpAnyH_take (i := 6) (v := ?_) rfl (by kernel_rfl) (by kernel_rfl) (by kernel_rfl) (fun _ _ _ h => h) (Or.inl ⟨by kernel_rfl, ?_⟩) (by assumption) ?_
                            rotate_left
                            · intro w hSw; obtain ⟨C1, C2, C3, C5, C6, C7⟩ := hSw; go_simp; (try with_reducible rfl)
                            (try simp only [Act.put, List.setIfInBounds_toArray, List.set_cons_zero, List.set_cons_succ])
                            refine wpAnyH_take (i := 7) (v := ?_) rfl (by kernel_rfl) (by kernel_rfl) (by kernel_rfl) (fun _ _ _ h => h) (Or.inl ⟨by kernel_rfl, ?_⟩) (by assumption) ?_
                            rotate_left
                            · intro w hSw; obtain ⟨C1, C2, C3, C5, C6, C7⟩ := hSw; go_simp; (try with_reducible rfl)
                            (try simp only [Act.put, List.setIfInBounds_toArray, List.set_cons_zero, List.set_cons_succ])
                            refine wpAnyH_take (i := 8) (v := ?_) rfl (by kernel_rfl) (by kernel_rfl) (by kernel_rfl) (fun _ _ _ h => h) (Or.inl ⟨by kernel_rfl, ?_⟩) (by assumption) ?_
                            rotate_left
                            · intro w hSw; obtain ⟨C1, C2, C3, C5, C6, C7⟩ := hSw; go_simp; (try with_reducible rfl)
                            (try simp only [Act.put, List.setIfInBounds_toArray, List.set_cons_zero, List.set_cons_succ])
                            refine wpAnyH_take (i := 9) (v := ?_) rfl (by kernel_rfl) (by kernel_rfl) (by kernel_rfl) (fun _ _ _ h => h) (Or.inl ⟨by kernel_rfl, ?_⟩) (by assumption) ?_
                            rotate_left
                            · intro w hSw; obtain ⟨C1, C2, C3, C5, C6, C7⟩ := hSw; go_simp; (try with_reducible rfl)
                            (try simp only [Act.put, List.setIfInBounds_toArray, List.set_cons_zero, List.set_cons_succ])
                            refine wpAnyH_take (i := 10) (v := ?_) rfl (by kernel_rfl) (by kernel_rfl) (by kernel_rfl) (fun _ _ _ h => h) (Or.inl ⟨by kernel_rfl, ?_⟩) (by assumption) ?_
                            rotate_left
                            · intro w hSw; obtain ⟨C1, C2, C3, C5, C6, C7⟩ := hSw; go_simp; (try with_reducible rfl)
                            (try simp only [Act.put, List.setIfInBounds_toArray, List.set_cons_zero, List.set_cons_succ])
                            refine wpAnyH_take (i := 11) (v := ?_) rfl (by kernel_rfl) (by kernel_rfl) (by kernel_rfl) (fun _ _ _ h => h) (Or.inl ⟨by kernel_rfl, ?_⟩) (by assumption) ?_
                            rotate_left
                            · intro w hSw; obtain ⟨C1, C2, C3, C5, C6, C7⟩ := hSw; go_simp; (try with_reducible rfl)
                            (try simp only [Act.put, List.setIfInBounds_toArray, List.set_cons_zero, List.set_cons_succ])
                            refine wpAnyH_take (i := 12) (v := ?_) rfl (by kernel_rfl) (by kernel_rfl) (by kernel_rfl) (fun _ _ _ h => h) (Or.inl ⟨by kernel_rfl, ?_⟩) (by assumption) ?_
                            rotate_left
                            · intro w hSw; obtain ⟨C1, C2, C3, C5, C6, C7⟩ := hSw; go_simp; (try with_reducible rfl)
                            (try simp only [Act.put, List.setIfInBounds_toArray, List.set_cons_zero, List.set_cons_succ])
                            refine wpAnyH_take (i := 13) (v := ?_) rfl (by kernel_rfl) (by kernel_rfl) (by kernel_rfl) (fun _ _ _ h => h) (Or.inl ⟨by kernel_rfl, ?_⟩) (by assumption) ?_
                            rotate_left
                            · intro w hSw; obtain ⟨C1, C2, C3, C5, C6, C7⟩ := hSw; go_simp; (try with_reducible rfl)
                            (try simp only [Act.put, List.setIfInBounds_toArray, List.set_cons_zero, List.set_cons_succ])
                            refine wpAnyH_take (i := 14) (v := ?_) rfl (by kernel_rfl) (by kernel_rfl) (by kernel_rfl) (fun _ _ _ h => h) (Or.inl ⟨by kernel_rfl, ?_⟩) (by assumption) ?_
                            rotate_left
                            · intro w hSw; obtain ⟨C1, C2, C3, C5, C6, C7⟩ := hSw; go_simp; (try with_reducible rfl)
                            (try simp only [Act.put, List.setIfInBounds_toArray, List.set_cons_zero, List.set_cons_succ])
                            refine wpAnyH_take (i := 15) (v := ?_) rfl (by kernel_rfl) (by kernel_rfl) (by kernel_rfl) (fun _ _ _ h => h) (Or.inl ⟨by kernel_rfl, ?_⟩) (by assumption) ?_
                            rotate_left
                            · intro w hSw; obtain ⟨C1, C2, C3, C5, C6, C7⟩ := hSw; go_simp; (try with_reducible rfl)
                            (try simp only [Act.put, List.setIfInBounds_toArray, List.set_cons_zero, List.set_cons_succ])
                            refine wpAnyH_take (i := 16) (v := ?_) rfl (by kernel_rfl) (by kernel_rfl) (by kernel_rfl) (fun _ _ _ h => h) (Or.inl ⟨by kernel_rfl, ?_⟩) (by assumption) ?_
                            rotate_left
                            · intro w hSw; obtain ⟨C1, C2, C3, C5, C6, C7⟩ := hSw; go_simp; (try with_reducible rfl)
                            (try simp only [Act.put, List.setIfInBounds_toArray, List.set_cons_zero, List.set_cons_succ])
                            refine wpAnyH_ready (rs := [17]) (by kernel_rfl) (by simp) ?_
                            refine AllReadyH.cons rfl (fun K hK => ?_) AllReadyH.nil
                            go_simp
                            refine hK.out _ _ (LN7.set7 hgb HG.out.1).drew (fun hHeld' => ?_)
                            clear hK K hHeld
                            have hHeld := hHeld'
                            clear hHeld'
                            (try simp only [Act.put, List.setIfInBounds_toArray, List.set_cons_zero, List.set_cons_succ])
                            refine wpAnyH_done (by kernel_rfl) ?_ _
                            (try simp only [List.getElem_toArray, List.getElem_cons_succ, List.getElem_cons_zero, List.set_cons_zero, List.set_cons_succ])
                            clear hHeld
                            go_wp2_with fail
                            have hR : hdV (W : Int) (H : Int) (32 : Int) (t : Int) (0 : Int) 0 0 = sunHdV W H 32 t 0 0 := by
                              have : firstBad (sunChks W H 32 t 0 0) = none := by simp [firstBad, sunChks, SunDepth, SunMapped, p1, p2, p3, p4, r0]
                              unfold sunHdV
                              rw [this]
                              rfl
                            exact bodyPost_ret (v := hdV (W : Int) (H : Int) (32 : Int) (t : Int) (0 : Int) 0 0) (by simp [results, Tryz.results58, go_sem, hdV, hd7, c0, c1, c2, c3, c4, c5, c6]; (first | rfl | exact IntWalk.i64_in _ (by omega))) rfl ⟨ret1 hR, H1'.out.store.drew⟩
                          · have r3' : ¬ (mb : Int) = 0 := by omega
                            go_wp2_with (go_at_call 135; refine (refSunBad _ _ _).mono ?_; rintro e w1 ⟨rfl, b1⟩; have H1 := HG.out.2.below b1; simp only [hdV, hd7]; obtain ⟨c0, c1, c2, c3, c4, c5, c6, z0, z1, z2, z3, z4, z5, z6, zl⟩ := H1.all)
                            have H1' := Lib.hid H1
                            have hR : hdV 0 0 0 0 0 2 28 = sunHdV W H 32 t 0 mb := by
                              have : firstBad (sunChks W H 32 t 0 mb) = some (2, 28) := by simp [firstBad, sunChks, SunDepth, SunMapped, p1, p2, p3, p4, r0, r3]
                              unfold sunHdV
                              rw [this]
                              rfl
                            exact bodyPost_ret (v := hdV 0 0 0 0 0 2 28) (by simp [results, Tryz.results58, go_sem, hdV, hd7, c0, c1, c2, c3, c4, c5, c6]) rfl ⟨ret1 hR, H1'.out.store⟩
                        · obtain rfl : mk = 1 := by omega
                          by_cases r3 : mb = 0
                          · subst r3
                            go_wp2_with (go_at_call 135; refine (refSunBad _ _ _).mono ?_; rintro e w1 ⟨rfl, b1⟩; have H1 := HG.out.2.below b1; simp only [hdV, hd7]; obtain ⟨c0, c1, c2, c3, c4, c5, c6, z0, z1, z2, z3, z4, z5, z6, zl⟩ := H1.all)
                            have H1' := Lib.hid H1
                            have hR : hdV 0 0 0 0 0 2 28 = sunHdV W H 32 t 1 0 := by
                              have : firstBad (sunChks W H 32 t 1 0) = some (2, 28) := by simp [firstBad, sunChks, SunDepth, SunMapped, p1, p2, p3, p4, r0]
                              unfold sunHdV
                              rw [this]
                              rfl
                            exact bodyPost_ret (v := hdV 0 0 0 0 0 2 28) (by simp [results, Tryz.results58, go_sem, hdV, hd7, c0, c1, c2, c3, c4, c5, c6]) rfl ⟨ret1 hR, H1'.out.store⟩
                          · have r3' : ¬ (mb : Int) = 0 := by omega
                            by_cases r4 : 768 < mb
                            · have r4' : (768 : Int) < (mb : Int) := by omega
                              have r4n : ¬ mb ≤ 768 := by omega
                              go_wp2_with (go_at_call 135; refine (refSunBad _ _ _).mono ?_; rintro e w1 ⟨rfl, b1⟩; have H1 := HG.out.2.below b1; simp only [hdV, hd7]; obtain ⟨c0, c1, c2, c3, c4, c5, c6, z0, z1, z2, z3, z4, z5, z6, zl⟩ := H1.all)
                              have H1' := Lib.hid H1
                              have hR : hdV 0 0 0 0 0 2 28 = sunHdV W H 32 t 1 mb := by
                                have : firstBad (sunChks W H 32 t 1 mb) = some (2, 28) := by simp [firstBad, sunChks, SunDepth, SunMapped, p1, p2, p3, p4, r0, r3, r4n]
                                unfold sunHdV
                                rw [this]
                                rfl
                              exact bodyPost_ret (v := hdV 0 0 0 0 0 2 28) (by simp [results, Tryz.results58, go_sem, hdV, hd7, c0, c1, c2, c3, c4, c5, c6]) rfl ⟨ret1 hR, H1'.out.store⟩
                            · have r4' : ¬ (768 : Int) < (mb : Int) := by omega
                              have r4n : mb ≤ 768 := by omega
                              have r3n : 0 < mb := by omega
                              have r3e : ((mb : Int) == 0) = false := by rw [beq_eq_false_iff_ne]; omega
                              by_cases r5 : mb % 3 = 0
                              · have r5' : ((mb : Int) % 3 != 0) = false := by rw [bne_eq_false_iff_eq]; omega
                                obtain ⟨q, hq⟩ : ∃ q, mb / 3 = q := ⟨_, rfl⟩
                                have hqI : (mb : Int) / 3 = (q : Int) := by omega
                                have hql : (q : Int) ≤ 256 := by omega
                                go_wp2_with fail
                                have H1 := HG.out.2
                                have H1' := Lib.hid H1
                                obtain ⟨c0, c1, c2, c3, c4, c5, c6, z0, z1, z2, z3, z4, z5, z6, zl⟩ := H1.all
                                clear H1
                                refine wp_region_held_drew (S := (fun wx => LN7 wx g W H 32 t 1 mb)) (by kernel_rfl) HG.out.1 (fun hHeld => ?_)
                                refine wpAnyH_take (i := 0) (v := ?_) rfl (by kernel_rfl) (by kernel_rfl) (by kernel_rfl) (fun _ _ _ h => h) (Or.inl ⟨by kernel_rfl, ?_⟩) (by assumption) ?_
                                rotate_left
                                · intro w hSw; obtain ⟨C1, C2, C3, C5, C6, C7⟩ := hSw; go_simp; (try with_reducible rfl)
                                (try simp only [Act.put, List.setIfInBounds_toArray, List.set_cons_zero, List.set_cons_succ])
                                refine wpAnyH_take (i := 1) (v := ?_) rfl (by kernel_rfl) (by kernel_rfl) (by kernel_rfl) (fun _ _ _ h => h) (Or.inl ⟨by kernel_rfl, ?_⟩) (by assumption) ?_
                                rotate_left
                                · intro w hSw; obtain ⟨C1, C2, C3, C5, C6, C7⟩ := hSw; go_simp; (try with_reducible rfl)
                                (try simp only [Act.put, List.setIfInBounds_toArray, List.set_cons_zero, List.set_cons_succ])
                                refine wpAnyH_take (i := 2) (v := ?_) rfl (by kernel_rfl) (by kernel_rfl) (by kernel_rfl) (fun _ _ _ h => h) (Or.inl ⟨by kernel_rfl, ?_⟩) (by assumption) ?_
                                rotate_left
                                · intro w hSw; obtain ⟨C1, C2, C3, C5, C6, C7⟩ := hSw; go_simp; (try with_reducible rfl)
                                (try simp only [Act.put, List.setIfInBounds_toArray, List.set_cons_zero, List.set_cons_succ])
                                refine wpAnyH_take (i := 3) (v := ?_) rfl (by kernel_rfl) (by kernel_rfl) (by kernel_rfl) (fun _ _ _ h => h) (Or.inl ⟨by kernel_rfl, ?_⟩) (by assumption) ?_
                                rotate_left
                                · intro w hSw; obtain ⟨C1, C2, C3, C5, C6, C7⟩ := hSw; go_simp; (try with_reducible rfl)
                                (try simp only [Act.put, List.setIfInBounds_toArray, List.set_cons_zero, List.set_cons_succ])
                                refine wpAnyH_take (i := 4) (v := ?_) rfl (by kernel_rfl) (by kernel_rfl) (by kernel_rfl) (fun _ _ _ h => h) (Or.inl ⟨by kernel_rfl, ?_⟩) (by assumption) ?_
                                rotate_left
                                · intro w hSw; obtain ⟨C1, C2, C3, C5, C6, C7⟩ := hSw; go_simp; (try with_reducible rfl)
                                (try simp only [Act.put, List.setIfInBounds_toArray, List.set_cons_zero, List.set_cons_succ])
                                refine wpAnyH_take (i := 5) (v := ?_) rfl (by kernel_rfl) (by kernel_rfl) (by kernel_rfl) (fun _ _ _ h => h) (Or.inl ⟨by kernel_rfl, ?_⟩) (by assumption) ?_
                                rotate_left
                                · intro w hSw; obtain ⟨C1, C2, C3, C5, C6, C7⟩ := hSw; go_simp; (try with_reducible rfl)
                                (try simp only [Act.put, List.setIfInBounds_toArray, List.set_cons_zero, List.set_cons_succ])
                                refine wpAnyH_take (i := 6) (v := ?_) rfl (by kernel_rfl) (by kernel_rfl) (by kernel_rfl) (fun _ _ _ h => h) (Or.inl ⟨by kernel_rfl, ?_⟩) (by assumption) ?_
                                rotate_left
                                · intro w hSw; obtain ⟨C1, C2, C3, C5, C6, C7⟩ := hSw; go_simp; (try with_reducible rfl)
                                (try simp only [Act.put, List.setIfInBounds_toArray, List.set_cons_zero, List.set_cons_succ])
                                refine wpAnyH_take (i := 7) (v := ?_) rfl (by kernel_rfl) (by kernel_rfl) (by kernel_rfl) (fun _ _ _ h => h) (Or.inl ⟨by kernel_rfl, ?_⟩) (by assumption) ?_
                                rotate_left
                                · intro w hSw; obtain ⟨C1, C2, C3, C5, C6, C7⟩ := hSw; go_simp; (try with_reducible rfl)
                                (try simp only [Act.put, List.setIfInBounds_toArray, List.set_cons_zero, List.set_cons_succ])
                                refine wpAnyH_take (i := 8) (v := ?_) rfl (by kernel_rfl) (by kernel_rfl) (by kernel_rfl) (fun _ _ _ h => h) (Or.inl ⟨by kernel_rfl, ?_⟩) (by assumption) ?_
                                rotate_left
                                · intro w hSw; obtain ⟨C1, C2, C3, C5, C6, C7⟩ := hSw; go_simp; (try with_reducible rfl)
                                (try simp only [Act.put, List.setIfInBounds_toArray, List.set_cons_zero, List.set_cons_succ])
                                refine wpAnyH_take (i := 9) (v := ?_) rfl (by kernel_rfl) (by kernel_rfl) (by kernel_rfl) (fun _ _ _ h => h) (Or.inl ⟨by kernel_rfl, ?_⟩) (by assumption) ?_
                                rotate_left
                                · intro w hSw; obtain ⟨C1, C2, C3, C5, C6, C7⟩ := hSw; go_simp; (try with_reducible rfl)
                                (try simp only [Act.put, List.setIfInBounds_toArray, List.set_cons_zero, List.set_cons_succ])
                                refine wpAnyH_take (i := 10) (v := ?_) rfl (by kernel_rfl) (by kernel_rfl) (by kernel_rfl) (fun _ _ _ h => h) (Or.inl ⟨by kernel_rfl, ?_⟩) (by assumption) ?_
                                rotate_left
                                · intro w hSw; obtain ⟨C1, C2, C3, C5, C6, C7⟩ := hSw; go_simp; (try with_reducible rfl)
                                (try simp only [Act.put, List.setIfInBounds_toArray, List.set_cons_zero, List.set_cons_succ])
                                refine wpAnyH_take (i := 11) (v := ?_) rfl (by kernel_rfl) (by kernel_rfl) (by kernel_rfl) (fun _ _ _ h => h) (Or.inl ⟨by kernel_rfl, ?_⟩) (by assumption) ?_
                                rotate_left
                                · intro w hSw; obtain ⟨C1, C2, C3, C5, C6, C7⟩ := hSw; go_simp; (try with_reducible rfl)
                                (try simp only [Act.put, List.setIfInBounds_toArray, List.set_cons_zero, List.set_cons_succ])
                                refine wpAnyH_take (i := 12) (v := ?_) rfl (by kernel_rfl) (by kernel_rfl) (by kernel_rfl) (fun _ _ _ h => h) (Or.inl ⟨by kernel_rfl, ?_⟩) (by assumption) ?_
                                rotate_left
                                · intro w hSw; obtain ⟨C1, C2, C3, C5, C6, C7⟩ := hSw; go_simp; (try with_reducible rfl)
                                (try simp only [Act.put, List.setIfInBounds_toArray, List.set_cons_zero, List.set_cons_succ])
                                refine wpAnyH_take (i := 13) (v := ?_) rfl (by kernel_rfl) (by kernel_rfl) (by kernel_rfl) (fun _ _ _ h => h) (Or.inl ⟨by kernel_rfl, ?_⟩) (by assumption) ?_
                                rotate_left
                                · intro w hSw; obtain ⟨C1, C2, C3, C5, C6, C7⟩ := hSw; go_simp; (try with_reducible rfl)
                                (try simp only [Act.put, List.setIfInBounds_toArray, List.set_cons_zero, List.set_cons_succ])
                                refine wpAnyH_take (i := 14) (v := ?_) rfl (by kernel_rfl) (by kernel_rfl) (by kernel_rfl) (fun _ _ _ h => h) (Or.inl ⟨by kernel_rfl, ?_⟩) (by assumption) ?_
                                rotate_left
                                · intro w hSw; obtain ⟨C1, C2, C3, C5, C6, C7⟩ := hSw; go_simp; (try with_reducible rfl)
                                (try simp only [Act.put, List.setIfInBounds_toArray, List.set_cons_zero, List.set_cons_succ])
                                refine wpAnyH_take (i := 15) (v := ?_) rfl (by kernel_rfl) (by kernel_rfl) (by kernel_rfl) (fun _ _ _ h => h) (Or.inl ⟨by kernel_rfl, ?_⟩) (by assumption) ?_
                                rotate_left
                                · intro w hSw; obtain ⟨C1, C2, C3, C5, C6, C7⟩ := hSw; go_simp; (try with_reducible rfl)
                                (try simp only [Act.put, List.setIfInBounds_toArray, List.set_cons_zero, List.set_cons_succ])
                                refine wpAnyH_take (i := 16) (v := ?_) rfl (by kernel_rfl) (by kernel_rfl) (by kernel_rfl) (fun _ _ _ h => h) (Or.inl ⟨by kernel_rfl, ?_⟩) (by assumption) ?_
                                rotate_left
                                · intro w hSw; obtain ⟨C1, C2, C3, C5, C6, C7⟩ := hSw; go_simp; (try with_reducible rfl)
                                (try simp only [Act.put, List.setIfInBounds_toArray, List.set_cons_zero, List.set_cons_succ])
                                refine wpAnyH_ready (rs := [17]) (by kernel_rfl) (by simp) ?_
                                refine AllReadyH.cons rfl (fun K hK => ?_) AllReadyH.nil
                                go_simp
                                refine hK.out _ _ (LN7.set7 hgb HG.out.1).drew (fun hHeld' => ?_)
                                clear hK K hHeld
                                have hHeld := hHeld'
                                clear hHeld'
                                (try simp only [Act.put, List.setIfInBounds_toArray, List.set_cons_zero, List.set_cons_succ])
                                refine wpAnyH_done (by kernel_rfl) ?_ _
                                (try simp only [List.getElem_toArray, List.getElem_cons_succ, List.getElem_cons_zero, List.set_cons_zero, List.set_cons_succ])
                                clear hHeld
                                go_wp2_with fail
                                have hR : hdV (W : Int) (H : Int) (32 : Int) (t : Int) (q : Int) 0 0 = sunHdV W H 32 t 1 mb := by
                                  have : firstBad (sunChks W H 32 t 1 mb) = none := by simp [firstBad, sunChks, SunDepth, SunMapped, p1, p2, p3, p4, r0, r3, r3n, r4n, r5]
                                  unfold sunHdV
                                  rw [this]
                                  rw [hq]; rfl
                                exact bodyPost_ret (v := hdV (W : Int) (H : Int) (32 : Int) (t : Int) (q : Int) 0 0) (by simp [results, Tryz.results58, go_sem, hdV, hd7, c0, c1, c2, c3, c4, c5, c6]; (first | rfl | exact IntWalk.i64_in _ (by omega))) rfl ⟨ret1 hR, H1'.out.store.drew⟩
                              · have r5' : ((mb : Int) % 3 != 0) = true := by rw [bne_iff_ne]; omega
                                go_wp2_with (go_at_call 135; refine (refSunBad _ _ _).mono ?_; rintro e w1 ⟨rfl, b1⟩; have H1 := HG.out.2.below b1; simp only [hdV, hd7]; obtain ⟨c0, c1, c2, c3, c4, c5, c6, z0, z1, z2, z3, z4, z5, z6, zl⟩ := H1.all)
                                have H1' := Lib.hid H1
                                have hR : hdV 0 0 0 0 0 2 28 = sunHdV W H 32 t 1 mb := by
                                  have : firstBad (sunChks W H 32 t 1 mb) = some (2, 28) := by simp [firstBad, sunChks, SunDepth, SunMapped, p1, p2, p3, p4, r0, r3, r4n, r5]
                                  unfold sunHdV
                                  rw [this]
                                  rfl
                                exact bodyPost_ret (v := hdV 0 0 0 0 0 2 28) (by simp [results, Tryz.results58, go_sem, hdV, hd7, c0, c1, c2, c3, c4, c5, c6]) rfl ⟨ret1 hR, H1'.out.store⟩
                · have hD' : ((d : Int) != 1) = true ∧ ((d : Int) != 8) = true ∧ ((d : Int) != 24) = true ∧ ((d : Int) != 32) = true := by simp only [bne_iff_ne]; unfold SunDepth at hD; omega
                  obtain ⟨d1, d2, d3, d4⟩ := hD'
                  obtain ⟨f1, f2, f3, f4⟩ : ¬ d = 1 ∧ ¬ d = 8 ∧ ¬ d = 24 ∧ ¬ d = 32 := by unfold SunDepth at hD; omega
                  go_wp2_with (go_at_call 135; refine (refSunBad _ _ _).mono ?_; rintro e w1 ⟨rfl, b1⟩; have H1 := HG.out.2.below b1; simp only [hdV, hd7]; obtain ⟨c0, c1, c2, c3, c4, c5, c6, z0, z1, z2, z3, z4, z5, z6, zl⟩ := H1.all)
                  have H1' := Lib.hid H1
                  have hR : hdV 0 0 0 0 0 3 12 = sunHdV W H d t mk mb := by
                    have : firstBad (sunChks W H d t mk mb) = some (3, 12) := by simp [firstBad, sunChks, SunDepth, SunMapped, p1, p2, p3, p4, f1, f2, f3, f4]
                    unfold sunHdV
                    rw [this]
                    rfl
                  exact bodyPost_ret (v := hdV 0 0 0 0 0 3 12) (by simp [results, Tryz.results58, go_sem, hdV, hd7, c0, c1, c2, c3, c4, c5, c6]) rfl ⟨ret1 hR, H1'.out.store⟩
end Go.Proofs.YtccldalagbfmhaaGreat
