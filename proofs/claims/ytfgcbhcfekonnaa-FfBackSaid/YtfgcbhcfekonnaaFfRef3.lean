/- The document's Decode of a farbfeld file. -/
import Derived.Test.YtfgcbhcfekonnaaFfRef
import Derived.Test.YtfgcbhcfekonnaaFfD
import Derived.Test.YtfgcbhcfekonnaaCols
import Derived.Test.YtfgcbhcfekonnaaRasBytes
import Derived.Test.YtfgcbhcfekonnaaScale
namespace Go.Proofs.Ytfgcbhcfekonnaa
open Go.RowKit
set_option linter.unusedVariables false
set_option linter.unusedSimpArgs false

/-- append(v, a row of colours...): one operation -/
theorem oper_append_cols {o : Oper} {a : Act} {w : World} {K : Act → World → Prop} {Q : Exit → Act → World → Prop}
    (s x : Operand) (ho : o.op = .call { callee := .builtin .append, args := #[s, x], argTypes := #[32, 32] })
    (base : Nat) (v : Value) (L : List Qc) (hs : a.eval s = v) (hown : OwnsQ w base v L)
    (g n c : Nat) (M : List Qc) (hn : n = M.length) (hx : a.eval x = .slice (some ⟨g, 0, none⟩) n c) (hM : QAt w g 0 M)
    (hlen : L.length + M.length < 1099511627776) (hbase : base ≤ w.heap.size)
    (h : ∀ v' w', OwnsQ w' base v' (L ++ M) → Below base w w' → w.grownBy w' v.ownBlock → K (a.put o.dst v') w') : Oper.wp Try.prog o a w K Q := by
  obtain ⟨i0, hi, hz0, hzs, hzb⟩ := info_parts infoQ
  subst hn
  obtain ⟨v', w', hr, h2, h3, h4⟩ := run_append_own (P := Try.prog) w base 32 o.type 39 i0 _ 4 4 Try.underlying32 hi hz0 hzs hzb rfl (by decide) v L.length (cq L) hown ⟨g, 0, none⟩ M.length c (cq M) (cq_len M) (by
    intro j u hj
    have hjl : j < (cq M).length := (List.getElem?_eq_some_iff.1 hj).1
    rw [cq_len] at hjl
    obtain ⟨qq, hq⟩ : ∃ qq, M[j / 4]? = some qq := ⟨_, List.getElem?_eq_getElem (show j / 4 < M.length by omega)⟩
    have e := hM (j / 4) _ hq
    have ej : j / 4 * 4 + j % 4 = j := by omega
    have hc := cq_at M (j / 4) (j % 4) _ hq (by omega)
    rw [ej, hj] at hc
    rw [show (⟨g, 0, none⟩ : Addr).add j = ⟨g, j, none⟩ by unfold Addr.add; split <;> simp_all]
    rw [Nat.zero_add] at e
    have h4 : j % 4 < 4 := by omega
    generalize j % 4 = r at h4 ej hc
    rw [hc, ← ej]
    match r, h4 with
    | 0, _ => exact e.1
    | 1, _ => exact e.2.1
    | 2, _ => exact e.2.2.1
    | 3, _ => exact e.2.2.2) (fun u hu => cq_one_cell hu) (by unfold maxLen; omega) (by omega) hbase
  unfold Oper.wp
  simp only [execOp, ho, resolve, invoke, builtin, Sem.run_bind, Sem.run_pure, Result.andThen_ok, List.map_toArray, List.map_cons, List.map_nil, hs, hx, hr]
  refine h v' w' ?_ ((Below.refl _ _).grown h3 hbase fun k hk => (World.ownsRow.lt hown k hk).1) h3
  show World.ownsRow _ _ _ _ _ _ _
  rw [List.length_append, cq_append]
  exact h2
/-- what the document tells of a file -/
def RefPost (d : DRes) (w w' : World) (e : Ending) : Prop :=
  Below w.heap.size w w' ∧ match d with
    | .bad k a => e = .returned (.agg #[.int .i64 0, .int .i64 0, .slice none 0 0, .int .i64 (k : Int), .int .i64 (a : Int)])
    | .img W H l => ∃ v L, e = .returned (.agg #[.int .i64 (W : Int), .int .i64 (H : Int), v, .int .i64 0, .int .i64 0]) ∧ OwnsQ w' w.heap.size v L ∧ flat L = l ∧ L.length = W * H
theorem ffPix_told_no {s : ByteArray} {W H z n k : Nat} (h : ¬ 16 + 8 * k + 8 ≤ s.size) : (ffPix s W H z (n + 1) k).told = .bad 1 s.size := by
  unfold ffPix Dec.told
  rw [if_neg h]
  rfl
theorem ffPix_told_yes {s : ByteArray} {W H z n k : Nat} (h : 16 + 8 * k + 8 ≤ s.size) : (ffPix s W H z (n + 1) k).told = (ffPix s W H z n (k + 1)).told := by
  rw [ffPix, Dec.told, if_pos h, Dec.told]
/-- the colour of a pixel -/
def ffC (s : ByteArray) (k : Nat) : Qc := ⟨ffU s (16 + 8 * k), ffU s (16 + 8 * k + 2), ffU s (16 + 8 * k + 4), ffU s (16 + 8 * k + 6)⟩
theorem refMaxAt {s : ByteArray} {a : Nat} {u : UInt8} (hu : ffU s a = u) (w : World) : Calls Try.prog 69 #[.int .i64 (beN s a 2 : Int), .int .i64 65535] w fun e w' => e = .returned (.int .i64 (u.toNat : Int)) ∧ w = w' := by
  have hl := beN_lt s a 2
  have h := refMax_any (beN s a 2 : Int) 65535 w (smay_iff.2 ⟨by omega, by omega, by omega, by omega⟩)
  rw [← ffU_int, hu] at h
  exact h
theorem refFfDec_bad {s : ByteArray} {k a : Nat} (hsm : s.size ≤ 1099511627776) (w : World) (h : (s.size < 16 ∧ k = 1 ∧ a = s.size) ∨ (16 ≤ s.size ∧ ffHead s = some (k, a))) :
    Calls Try.prog 26 #[.string s] w fun e w' => e = .returned (.agg #[.int .i64 0, .int .i64 0, .slice none 0 0, .int .i64 (k : Int), .int .i64 (a : Int)]) ∧ Below w.heap.size w w' := by
  rcases h with ⟨hs, rfl, rfl⟩ | ⟨hs, hh⟩
  · have hsI : (s.size : Int) < 16 := by omega
    obtain ⟨F0, B0⟩ := ri_new w
    go_enter Try.func26, Try.ntmps26
    go_wp2_with (go_at_call 68; refine (refBadC 1 _ _).mono ?_; rintro e w5 ⟨rfl, b5⟩; have f5 : RI w5 w.heap.size 0 0 (.slice none 0 0) 0 0 := Blk.below F0 b5 (Blk.lt F0); obtain ⟨c0, c1, c2, c3, c4, z0, z1, z2, z3, z4, fl⟩ := RI.all f5)
    exact bodyPost_ret (v := .agg #[.int .i64 0, .int .i64 0, .slice none 0 0, .int .i64 1, .int .i64 (s.size : Int)]) (by simp [results, Try.results26, go_sem, c0, c1, c2, c3, c4]) rfl ⟨rfl, Below.st5 (below_next B0 b5) (Nat.le_refl _)⟩
  · have hsI : ¬ (s.size : Int) < 16 := by omega
    have HC := Lib.hid (fun w => refFfCheckC (b := s) hs hsm w)
    have hk := (ffHead_ne hh).1
    have hkI : ¬ (k : Int) = 0 := by simp only at hk; omega
    rw [hh] at HC
    simp only [riTold] at HC
    obtain ⟨F0, B0⟩ := ri_new w
    clear hh hs hk
    go_enter Try.func26, Try.ntmps26
    go_wp2_with (go_at_call 61; refine (HC.out _).mono ?_; rintro e w5 ⟨rfl, b5⟩; have f5 : RI w5 w.heap.size 0 0 (.slice none 0 0) 0 0 := Blk.below F0 b5 (Blk.lt F0); obtain ⟨c0, c1, c2, c3, c4, z0, z1, z2, z3, z4, fl⟩ := RI.all f5)
    have fl2 := Nat.ne_of_lt fl
    exact bodyPost_ret (v := .agg #[.int .i64 0, .int .i64 0, .slice none 0 0, .int .i64 (k : Int), .int .i64 (a : Int)]) (by simp [results, Try.results26, go_sem, c0, c1, c2, c3, c4, fl, fl2]) rfl ⟨rfl, by have B9 := Below.st5 (u0 := .int .i64 0) (u1 := .int .i64 0) (u2 := .slice none 0 0) (u3 := .int .i64 (k : Int)) (u4 := .int .i64 (a : Int)) (below_next B0 b5) (Nat.le_refl _); exact B9.alloc B9.size _⟩
theorem ffC_list (s : ByteArray) (k : Nat) : (ffC s k).list = ffQ s k := rfl
theorem flat_snoc {L : List Qc} {s : ByteArray} {k : Nat} (h : flat L = ffBytes s k) : flat (L ++ [ffC s k]) = ffBytes s (k + 1) := by
  rw [flat_append, h, ffBytes]
  simp [flat, ffC_list]
/-- what holds at each pixel -/
structure RefP (w0 w : World) (b2 b4 W H k : Nat) (v : Value) (L : List Qc) (s : ByteArray) : Prop where
  A : RI w b2 0 0 (.slice none 0 0) 0 0
  X : RI w b4 (W : Int) (H : Int) v 0 0
  O : OwnsQ w w0.heap.size v L
  F : flat L = ffBytes s k
  N : L.length = k
  B : Below w0.heap.size w0 w
theorem OwnsQ.farRI {w : World} {base b i : Nat} {v v' u : Value} {L : List Qc} {W H k a : Int} (o : OwnsQ w base v L) (h : RI w b W H v' k a) : OwnsQ (w.setCell ⟨b, i, none⟩ u) base v L :=
  o.turn (S := [b]) ((Turn.refl _ _).set_ i u (by simp)) (fun j hj => by rw [List.mem_singleton] at hj; subst hj; exact ⟨_, _, h, by decide⟩)
theorem OwnsQ.st5RI {w : World} {base b : Nat} {v v' u0 u1 u2 u3 u4 : Value} {L : List Qc} {W H k a : Int} (o : OwnsQ w base v L) (h : RI w b W H v' k a) : OwnsQ (st5 w b u0 u1 u2 u3 u4) base v L :=
  o.turn (S := [b]) (((((Turn.refl _ _).set_ 0 u0 (by simp)).set_ 1 u1 (by simp)).set_ 2 u2 (by simp)).set_ 3 u3 (by simp) |>.set_ 4 u4 (by simp)) (fun j hj => by rw [List.mem_singleton] at hj; subst hj; exact ⟨_, _, h, by decide⟩)
theorem Blk.grown8 {w w' : World} {base k : Nat} {t : TypeId} {cs : Array Value} {v : Value} {l : List UInt8} (h : Blk w k t cs) (o : Owns8 w base v l) (ht : t ≠ 5) (hg : w.grownBy w' v.ownBlock) : Blk w' k t cs :=
  h.grown hg (fun e => by
    rcases o.2 with ⟨rfl, _⟩ | ⟨r, cap, cur, rfl, _, hr, _⟩
    · cases e
    · have hk : k = r := by simpa [Value.ownBlock] using e
      subst hk
      exact Blk.ne_ h hr ht rfl)
theorem OwnsQ.grown8 {w w' : World} {base base' : Nat} {v u : Value} {L : List Qc} {l : List UInt8} (h : OwnsQ w base v L) (o : Owns8 w base' u l) (hg : w.grownBy w' u.ownBlock) : OwnsQ w' base v L :=
  h.kept hg (by
    rcases h.2 with ⟨rfl, _⟩ | ⟨r, cap, cur, rfl, _, hr, _⟩
    · exact .inl rfl
    · refine .inr fun e => ?_
      rcases o.2 with ⟨rfl, _⟩ | ⟨r', cap', cur', rfl, _, hr', _⟩
      · cases e
      · have hk : r = r' := by simpa [Value.ownBlock] using e
        subst hk
        exact absurd rfl (Blk.ne_ hr hr' (by decide)))
theorem RefP.below {w0 w w' : World} {b2 b4 W H k : Nat} {v : Value} {L : List Qc} {s : ByteArray} (P : RefP w0 w b2 b4 W H k v L s) (b : Below w.heap.size w w') : RefP w0 w' b2 b4 W H k v L s :=
  ⟨Blk.below P.A b (Blk.lt P.A), Blk.below P.X b (Blk.lt P.X), P.O.below b, P.F, P.N, below_next P.B b⟩
theorem RefP.grow8 {w0 w w' : World} {b2 b4 W H k base : Nat} {v u : Value} {L : List Qc} {l : List UInt8} {s : ByteArray} (P : RefP w0 w b2 b4 W H k v L s) (o : Owns8 w base u l) (hg : w.grownBy w' u.ownBlock) (hb : Below w0.heap.size w w') : RefP w0 w' b2 b4 W H k v L s :=
  ⟨Blk.grown8 P.A o (by decide) hg, Blk.grown8 P.X o (by decide) hg, P.O.grown8 o hg, P.F, P.N, P.B.trans hb⟩
theorem Owns8.form4 {w : World} {base : Nat} {v : Value} {u0 u1 u2 u3 : UInt8} (o : Owns8 w base v [u0, u1, u2, u3]) : ∃ g cap cur, v = .slice (some ⟨g, 0, none⟩) 4 cap ∧ 4 ≤ cap ∧ base ≤ g ∧ Blk w g 5 cur ∧ cur[0]? = some (.int .u8 (u0.toNat : Int)) ∧ cur[1]? = some (.int .u8 (u1.toNat : Int)) ∧ cur[2]? = some (.int .u8 (u2.toNat : Int)) ∧ cur[3]? = some (.int .u8 (u3.toNat : Int)) := by
  rcases o.2 with ⟨_, h⟩ | ⟨g, cap, cur, rfl, hb, hg, hc, hm, hs, ht⟩
  · simp at h
  · have key : ∀ j, j < 4 → cur[j]? = (C8 [u0, u1, u2, u3])[j]? := fun j hj => by
      rw [← Array.getElem?_toList, ← ht, List.getElem?_take_of_lt (by simpa using hj)]
    exact ⟨g, cap, cur, rfl, hc, hb, hg, key 0 (by omega), key 1 (by omega), key 2 (by omega), key 3 (by omega)⟩
set_option maxRecDepth 100000 in
set_option maxHeartbeats 4000000 in
theorem refFfDec_ok {s : ByteArray} {W H N z : Nat} {D : DRes} (hsm : s.size ≤ 1099511627776) (w : World) (hs : 16 ≤ s.size) (hh : ffHead s = none) (hW : beN s 8 4 = W) (hH : beN s 12 4 = H) (hW1 : W ≤ 16384) (hH1 : H ≤ 16384) (hN : W * H = N) (hD : (ffPix s W H z N 0).told = D) :
    Calls Try.prog 26 #[.string s] w fun e w' => RefPost D w w' e := by
  have hsI : ¬ (s.size : Int) < 16 := by omega
  have hsI2 : (16 : Int) ≤ (s.size : Int) := by omega
  have hsI3 : (12 : Int) ≤ (s.size : Int) := by omega
  have hN1 : N ≤ 16384 * 16384 := by rw [← hN]; exact Nat.mul_le_mul hW1 hH1
  have hWH : wrap64 ((W : Int) * (H : Int)) = (N : Int) := by
    have e : (W : Int) * (H : Int) = (N : Int) := by rw [← hN, Int.natCast_mul]
    rw [e]
    exact wrap64_id _ (by omega) (by omega)
  have HC := Lib.hid (fun w => refFfCheckC (b := s) hs hsm w)
  have HB := Lib.hid (fun a (ha : a + 4 ≤ 16) w => refBe_at (s := s) (a := a) (n := 4) (by omega) (by omega) rfl w)
  rw [hh] at HC
  simp only [riTold] at HC
  have HN := Lib.hid hN
  have HD := Lib.hid hD
  have HWW := Lib.hid hW
  have HHH := Lib.hid hH
  obtain ⟨F0, B0⟩ := ri_new w
  clear hh hN hD hW hH
  go_enter Try.func26, Try.ntmps26
  go_wp2_with (go_at_call 61; refine (HC.out _).mono ?_; rintro e w5 ⟨rfl, b5⟩)
  have A1 : RI (w5.alloc (.cells #[.int .i64 0, .int .i64 0, .slice none 0 0, .int .i64 0, .int .i64 0] 60)) w.heap.size 0 0 (.slice none 0 0) 0 0 := Blk.alloc (Blk.below F0 b5 (Blk.lt F0)) _
  have B1 : Below w.heap.size w (w5.alloc (.cells #[.int .i64 0, .int .i64 0, .slice none 0 0, .int .i64 0, .int .i64 0] 60)) := (below_next B0 b5).alloc (below_next B0 b5).size _
  generalize w5.alloc (.cells #[.int .i64 0, .int .i64 0, .slice none 0 0, .int .i64 0, .int .i64 0] 60) = w6 at A1 B1 ⊢
  have hz6 := B1.size
  have A2 := Lib.hid A1
  have B2 := Lib.hid B1
  clear F0 B0 b5 A1 B1
  go_cut [4] (fun v4 wc => v4 = .pointer (some ⟨w6.heap.size, 0, none⟩) ∧ RI wc w.heap.size 0 0 (.slice none 0 0) 0 0 ∧ RI wc w6.heap.size (W : Int) (H : Int) (.slice none 0 0) 0 0 ∧ Below w.heap.size w wc)
  case first =>
    go_region_with (go_at_call 62; refine (HB.out _ (by decide) _).mono ?_; rintro e w2 ⟨rfl, rfl⟩)
    all_goals rw [HWW.out, HHH.out]
    all_goals go_wp2_with fail
    all_goals
      go_meet
      case rel => exact ⟨rfl, (Blk.alloc A2.out _).drew, (Blk.new _ _ _).drew, (B2.out.alloc B2.out.size _).drew⟩
  case rest =>
    obtain ⟨rfl, A3, X3, B3⟩ := hcut
    have hb4n : w.heap.size ≠ w6.heap.size := by
      have := Blk.lt A2.out
      omega
    generalize w6.heap.size = b4 at A3 X3 B3 hb4n hz6 ⊢
    have hb4 := Lib.hid hb4n
    have hb4' := hz6
    have P1 : RefP w wc w.heap.size b4 W H 0 (.slice none 0 0) [] s := ⟨A3, X3, World.ownsRow_nil _ _ _ _, rfl, rfl, B3⟩
    have HP1 := Lib.hid P1
    clear A2 B2 A3 X3 B3 P1 hb4n hz6
    go_wp2_with fail
    go_loopg [5] N (fun gh kv wr => ∃ k v L, kv = .int .i64 ((k : Nat) : Int) ∧ k + gh = N ∧ Hid (RefP w wr w.heap.size b4 W H k v L s ∧ (ffPix s W H z (N - k) k).told = D))
    case atStart => exact ⟨0, _, _, rfl, by omega, Lib.hid ⟨HP1.out, HD.out⟩⟩
    case round =>
      obtain ⟨k, v, L, rfl, hk, hP⟩ := hrel
      obtain ⟨va, vc, hv⟩ := hP.out.1.O.slice
      generalize L.length = vn at hv
      subst hv
      have HP := Lib.hid hP.out.1
      have HRUN0 := Lib.hid hP.out.2
      obtain ⟨c0, c1, c2, c3, c4, z0, z1, z2, z3, z4, fl⟩ := RI.all HP.out.X
      clear hP HP1 HD
      by_cases hlt : k < N
      · have hltI : (k : Int) < (N : Int) := by omega
        obtain ⟨a, ha⟩ : ∃ a, 16 + 8 * k = a := ⟨_, rfl⟩
        have haI : (16 : Int) + 8 * (k : Int) = (a : Int) := by omega
        obtain ⟨n, hn⟩ : ∃ n, N - k = n + 1 := ⟨N - k - 1, by omega⟩
        have hrun := HRUN0.out
        rw [hn] at hrun
        have HAK := Lib.hid ha
        by_cases hsz : a + 8 ≤ s.size
        · rw [ffPix_told_yes (by omega)] at hrun
          have HRUN := Lib.hid hrun
          have HNK : Hid (N - (k + 1) = n) := Lib.hid (by omega)
          have hszI : ¬ (s.size : Int) < (a : Int) + 8 := by omega
          clear hrun HRUN0 hn ha
          go_wp2_with fail
          have O0 : Owns8 (wr.alloc (.cells #[] 5)) w.heap.size (.slice (some ⟨wr.heap.size, 0, none⟩) 0 0) [] := Owns8.empty HP.out.B.size
          have P0 : RefP w (wr.alloc (.cells #[] 5)) w.heap.size b4 W H k (.slice va vn vc) L s := HP.out.below ((Below.refl _ _).alloc (Nat.le_refl _) _)
          generalize wr.alloc (.cells #[] 5) = wi at O0 P0 ⊢
          generalize wr.heap.size = li at O0 ⊢
          obtain ⟨u0, hu0⟩ : ∃ u, ffU s (a + 2 * 0) = u := ⟨_, rfl⟩
          obtain ⟨u1, hu1⟩ : ∃ u, ffU s (a + 2 * 1) = u := ⟨_, rfl⟩
          obtain ⟨u2, hu2⟩ : ∃ u, ffU s (a + 2 * 2) = u := ⟨_, rfl⟩
          obtain ⟨u3, hu3⟩ : ∃ u, ffU s (a + 2 * 3) = u := ⟨_, rfl⟩
          have hqc : ffC s k = ⟨u0, u1, u2, u3⟩ := by rw [← hu0, ← hu1, ← hu2, ← hu3, ← HAK.out]; rfl
          have HQC := Lib.hid hqc
          have HU0 := Lib.hid hu0
          have HU1 := Lib.hid hu1
          have HU2 := Lib.hid hu2
          have HU3 := Lib.hid hu3
          have HI := Lib.hid (And.intro P0 O0)
          have HSZ := Lib.hid hsz
          have HBE := Lib.hid (fun b (hb : b + 2 ≤ s.size) w => refBe_at (s := s) (a := b) (n := 2) hb (by decide) rfl w)
          clear hu0 hu1 hu2 hu3 hqc P0 O0 HP c0 c1 c2 c3 c4 z0 z1 z2 z3 z4 fl haI hsz hszI
          go_loopg [7, 8] 4 (fun gh v7 v8 wr => ∃ l : List UInt8, Hid (RefP w wr w.heap.size b4 W H k (.slice va vn vc) L s ∧ Owns8 wr w.heap.size v7 l) ∧ ((gh = 4 ∧ v8 = .int .i64 0 ∧ l = []) ∨ (gh = 3 ∧ v8 = .int .i64 1 ∧ l = [u0]) ∨ (gh = 2 ∧ v8 = .int .i64 2 ∧ l = [u0, u1]) ∨ (gh = 1 ∧ v8 = .int .i64 3 ∧ l = [u0, u1, u2]) ∨ (gh = 0 ∧ v8 = .int .i64 4 ∧ l = [u0, u1, u2, u3])))
          case atStart => exact ⟨[], HI, .inl ⟨rfl, rfl, rfl⟩⟩
          case round =>
            obtain ⟨l, hX, hor⟩ := hrel
            clear HI
            rcases hor with ⟨rfl, rfl, rfl⟩ | ⟨rfl, rfl, rfl⟩ | ⟨rfl, rfl, rfl⟩ | ⟨rfl, rfl, rfl⟩ | ⟨rfl, rfl, rfl⟩
            · obtain ⟨b, hb⟩ : ∃ b, a + 2 * 0 = b := ⟨_, rfl⟩
              have hu8 : (u0.toNat : Int) < 256 := by have := UInt8.toNat_lt u0; omega
              have HUB : Hid (ffU s b = u0) := Lib.hid (by rw [← hb]; exact HU0.out)
              have hbs : b + 2 ≤ s.size := by have := HSZ.out; omega
              have hbI : (a : Int) + 0 = (b : Int) := by omega
              have hbJ : (b : Int) + 2 ≤ (s.size : Int) := by omega
              have hbK : (b : Int) ≤ (b : Int) + 2 := by omega
              have hbT : ((b : Int) + 2).toNat = b + 2 := by omega
              subst hb
              clear hbI
              have own3 := hX.out.2
              go_wp2_with (first
                | (go_at_call 62; refine (HBE.out _ hbs _).mono ?_; rintro e w2 ⟨rfl, rfl⟩)
                | (go_at_call 69; refine (refMaxAt HUB.out _).mono ?_; rintro e w2 ⟨rfl, rfl⟩)
                | (at_builtin; refine wpList_append_byte rfl (.tmp 53) (.tmp 68) rfl w.heap.size _ _ rfl (own3.alloc _) _ rfl u0 ?_ ?_ ?_ ?_; (exact cell_new _ _ _ 0 _ rfl); (simp); (have := hX.out.1.B.size; simp; omega); intro v5 w5 own5 hb5 hg5))
              go_roundg 3
              case measure => decide
              case rel => exact ⟨[] ++ [u0], Lib.hid ⟨(hX.out.1.below ((Below.refl _ _).alloc (Nat.le_refl _) _)).grow8 (own3.alloc _) hg5 hb5, own5⟩, .inr (.inl ⟨rfl, rfl, rfl⟩)⟩
            · obtain ⟨b, hb⟩ : ∃ b, a + 2 * 1 = b := ⟨_, rfl⟩
              have hu8 : (u1.toNat : Int) < 256 := by have := UInt8.toNat_lt u1; omega
              have HUB : Hid (ffU s b = u1) := Lib.hid (by rw [← hb]; exact HU1.out)
              have hbs : b + 2 ≤ s.size := by have := HSZ.out; omega
              have hbI : (a : Int) + 2 = (b : Int) := by omega
              have hbJ : (b : Int) + 2 ≤ (s.size : Int) := by omega
              have hbK : (b : Int) ≤ (b : Int) + 2 := by omega
              have hbT : ((b : Int) + 2).toNat = b + 2 := by omega
              clear hb
              have own3 := hX.out.2
              go_wp2_with (first
                | (go_at_call 62; refine (HBE.out _ hbs _).mono ?_; rintro e w2 ⟨rfl, rfl⟩)
                | (go_at_call 69; refine (refMaxAt HUB.out _).mono ?_; rintro e w2 ⟨rfl, rfl⟩)
                | (at_builtin; refine wpList_append_byte rfl (.tmp 53) (.tmp 68) rfl w.heap.size _ _ rfl (own3.alloc _) _ rfl u1 ?_ ?_ ?_ ?_; (exact cell_new _ _ _ 0 _ rfl); (simp); (have := hX.out.1.B.size; simp; omega); intro v5 w5 own5 hb5 hg5))
              go_roundg 2
              case measure => decide
              case rel => exact ⟨[u0] ++ [u1], Lib.hid ⟨(hX.out.1.below ((Below.refl _ _).alloc (Nat.le_refl _) _)).grow8 (own3.alloc _) hg5 hb5, own5⟩, .inr (.inr (.inl ⟨rfl, rfl, rfl⟩))⟩
            · obtain ⟨b, hb⟩ : ∃ b, a + 2 * 2 = b := ⟨_, rfl⟩
              have hu8 : (u2.toNat : Int) < 256 := by have := UInt8.toNat_lt u2; omega
              have HUB : Hid (ffU s b = u2) := Lib.hid (by rw [← hb]; exact HU2.out)
              have hbs : b + 2 ≤ s.size := by have := HSZ.out; omega
              have hbI : (a : Int) + 4 = (b : Int) := by omega
              have hbJ : (b : Int) + 2 ≤ (s.size : Int) := by omega
              have hbK : (b : Int) ≤ (b : Int) + 2 := by omega
              have hbT : ((b : Int) + 2).toNat = b + 2 := by omega
              clear hb
              have own3 := hX.out.2
              go_wp2_with (first
                | (go_at_call 62; refine (HBE.out _ hbs _).mono ?_; rintro e w2 ⟨rfl, rfl⟩)
                | (go_at_call 69; refine (refMaxAt HUB.out _).mono ?_; rintro e w2 ⟨rfl, rfl⟩)
                | (at_builtin; refine wpList_append_byte rfl (.tmp 53) (.tmp 68) rfl w.heap.size _ _ rfl (own3.alloc _) _ rfl u2 ?_ ?_ ?_ ?_; (exact cell_new _ _ _ 0 _ rfl); (simp); (have := hX.out.1.B.size; simp; omega); intro v5 w5 own5 hb5 hg5))
              go_roundg 1
              case measure => decide
              case rel => exact ⟨[u0, u1] ++ [u2], Lib.hid ⟨(hX.out.1.below ((Below.refl _ _).alloc (Nat.le_refl _) _)).grow8 (own3.alloc _) hg5 hb5, own5⟩, .inr (.inr (.inr (.inl ⟨rfl, rfl, rfl⟩)))⟩
            · obtain ⟨b, hb⟩ : ∃ b, a + 2 * 3 = b := ⟨_, rfl⟩
              have hu8 : (u3.toNat : Int) < 256 := by have := UInt8.toNat_lt u3; omega
              have HUB : Hid (ffU s b = u3) := Lib.hid (by rw [← hb]; exact HU3.out)
              have hbs : b + 2 ≤ s.size := by have := HSZ.out; omega
              have hbI : (a : Int) + 6 = (b : Int) := by omega
              have hbJ : (b : Int) + 2 ≤ (s.size : Int) := by omega
              have hbK : (b : Int) ≤ (b : Int) + 2 := by omega
              have hbT : ((b : Int) + 2).toNat = b + 2 := by omega
              clear hb
              have own3 := hX.out.2
              go_wp2_with (first
                | (go_at_call 62; refine (HBE.out _ hbs _).mono ?_; rintro e w2 ⟨rfl, rfl⟩)
                | (go_at_call 69; refine (refMaxAt HUB.out _).mono ?_; rintro e w2 ⟨rfl, rfl⟩)
                | (at_builtin; refine wpList_append_byte rfl (.tmp 53) (.tmp 68) rfl w.heap.size _ _ rfl (own3.alloc _) _ rfl u3 ?_ ?_ ?_ ?_; (exact cell_new _ _ _ 0 _ rfl); (simp); (have := hX.out.1.B.size; simp; omega); intro v5 w5 own5 hb5 hg5))
              go_roundg 0
              case measure => decide
              case rel => exact ⟨[u0, u1, u2] ++ [u3], Lib.hid ⟨(hX.out.1.below ((Below.refl _ _).alloc (Nat.le_refl _) _)).grow8 (own3.alloc _) hg5 hb5, own5⟩, .inr (.inr (.inr (.inr ⟨rfl, rfl, rfl⟩)))⟩
            · obtain ⟨lb, cap, cur, rfl, hcap, hbl, LB0, hc0, hc1, hc2, hc3⟩ := hX.out.2.form4
              have P7 := Lib.hid hX.out.1
              have HC0 := Lib.hid hc0
              have HC1 := Lib.hid hc1
              have HC2 := Lib.hid hc2
              have HC3 := Lib.hid hc3
              have e0 : wr.cell? ⟨lb, 0, none⟩ = some (.int .u8 (u0.toNat : Int)) := (Blk.cell LB0 0).trans hc0
              have e1 : wr.cell? ⟨lb, 1, none⟩ = some (.int .u8 (u1.toNat : Int)) := (Blk.cell LB0 1).trans hc1
              have e2 : wr.cell? ⟨lb, 2, none⟩ = some (.int .u8 (u2.toNat : Int)) := (Blk.cell LB0 2).trans hc2
              have e3 : wr.cell? ⟨lb, 3, none⟩ = some (.int .u8 (u3.toNat : Int)) := (Blk.cell LB0 3).trans hc3
              have lbl := Blk.lt LB0
              have K0 := Lib.hid e0
              have K1 := Lib.hid e1
              have K2 := Lib.hid e2
              have K3 := Lib.hid e3
              obtain ⟨x0, x1, x2, x3, x4, zx0, zx1, zx2, zx3, zx4, xl⟩ := RI.all P7.out.X
              have PA : RefP w ((wr.alloc (.cells #[.int .u8 (u0.toNat : Int), .int .u8 (u1.toNat : Int), .int .u8 (u2.toNat : Int), .int .u8 (u3.toNat : Int)] 39)).drew) w.heap.size b4 W H k (.slice va vn vc) L s := P7.out.below ((Below.refl _ _).alloc (Nat.le_refl _) _).drew
              have O1 := PA.O
              have X1 := PA.X
              have A1 := PA.A
              have BB := PA.B
              have LB : Blk ((wr.alloc (.cells #[.int .u8 (u0.toNat : Int), .int .u8 (u1.toNat : Int), .int .u8 (u2.toNat : Int), .int .u8 (u3.toNat : Int)] 39)).drew) lb 5 cur := (Blk.alloc LB0 _).drew
              have KK : ∀ {i : Nat} {u : Value}, wr.cell? ⟨lb, i, none⟩ = some u → (wr.alloc (.cells #[.int .u8 (u0.toNat : Int), .int .u8 (u1.toNat : Int), .int .u8 (u2.toNat : Int), .int .u8 (u3.toNat : Int)] 39)).drew.cell? ⟨lb, i, none⟩ = some u := fun h => (World.cell?_of_block (Below.heap_alloc wr _ lb lbl)).trans h
              clear hX hc0 hc1 hc2 hc3 PA
              go_upto_region 18 with fail
              refine wp_region_held_drew (S := (fun w' => w'.cell? ⟨lb, 0, none⟩ = some (.int .u8 (u0.toNat : Int)) ∧ w'.cell? ⟨lb, 1, none⟩ = some (.int .u8 (u1.toNat : Int)) ∧ w'.cell? ⟨lb, 2, none⟩ = some (.int .u8 (u2.toNat : Int)) ∧ w'.cell? ⟨lb, 3, none⟩ = some (.int .u8 (u3.toNat : Int)))) (by kernel_rfl) ⟨e0, e1, e2, e3⟩ (fun hHeld => ?_)
              refine wpAnyH_take (i := 0) (v := ?_) rfl (by kernel_rfl) (by kernel_rfl) (by kernel_rfl) (fun _ _ _ h => h) (Or.inl ⟨by kernel_rfl, ?_⟩) (by assumption) ?_
              rotate_left
              · intro w hSw; (try dsimp only at hSw); go_simp; (try with_reducible rfl)
              (try simp only [Act.put, List.setIfInBounds_toArray, List.set_cons_zero, List.set_cons_succ])
              refine wpAnyH_take (i := 2) (v := ?_) rfl (by kernel_rfl) (by kernel_rfl) (by kernel_rfl) (fun _ _ _ h => h) (Or.inl ⟨by kernel_rfl, ?_⟩) (by assumption) ?_
              rotate_left
              · intro w hSw; (try dsimp only at hSw); go_simp; (try with_reducible rfl)
              (try simp only [Act.put, List.setIfInBounds_toArray, List.set_cons_zero, List.set_cons_succ])
              refine wpAnyH_take (i := 3) (v := ?_) rfl (by kernel_rfl) (by kernel_rfl) (by kernel_rfl) (fun _ _ _ h => h) (Or.inl ⟨by kernel_rfl, ?_⟩) (by assumption) ?_
              rotate_left
              · intro w hSw; (try dsimp only at hSw); go_simp; (try with_reducible rfl)
              (try simp only [Act.put, List.setIfInBounds_toArray, List.set_cons_zero, List.set_cons_succ])
              refine wpAnyH_take (i := 4) (v := ?_) rfl (by kernel_rfl) (by kernel_rfl) (by kernel_rfl) (fun _ _ _ h => h) (Or.inl ⟨by kernel_rfl, ?_⟩) (by assumption) ?_
              rotate_left
              · intro w hSw; (try dsimp only at hSw); go_simp; (try with_reducible rfl)
              (try simp only [Act.put, List.setIfInBounds_toArray, List.set_cons_zero, List.set_cons_succ])
              refine wpAnyH_take (i := 5) (v := ?_) rfl (by kernel_rfl) (by kernel_rfl) (by kernel_rfl) (fun _ _ _ h => h) (Or.inl ⟨by kernel_rfl, ?_⟩) (by assumption) ?_
              rotate_left
              · intro w hSw; (try dsimp only at hSw); go_simp; (try with_reducible rfl)
              (try simp only [Act.put, List.setIfInBounds_toArray, List.set_cons_zero, List.set_cons_succ])
              refine wpAnyH_take (i := 6) (v := ?_) rfl (by kernel_rfl) (by kernel_rfl) (by kernel_rfl) (fun _ _ _ h => h) (Or.inl ⟨by kernel_rfl, ?_⟩) (by assumption) ?_
              rotate_left
              · intro w hSw; (try dsimp only at hSw); go_simp; (try with_reducible rfl)
              (try simp only [Act.put, List.setIfInBounds_toArray, List.set_cons_zero, List.set_cons_succ])
              refine wpAnyH_take (i := 7) (v := ?_) rfl (by kernel_rfl) (by kernel_rfl) (by kernel_rfl) (fun _ _ _ h => h) (Or.inl ⟨by kernel_rfl, ?_⟩) (by assumption) ?_
              rotate_left
              · intro w hSw; (try dsimp only at hSw); go_simp; (try with_reducible rfl)
              (try simp only [Act.put, List.setIfInBounds_toArray, List.set_cons_zero, List.set_cons_succ])
              refine wpAnyH_take (i := 8) (v := ?_) rfl (by kernel_rfl) (by kernel_rfl) (by kernel_rfl) (fun _ _ _ h => h) (Or.inl ⟨by kernel_rfl, ?_⟩) (by assumption) ?_
              rotate_left
              · intro w hSw; (try dsimp only at hSw); go_simp; (try with_reducible rfl)
              (try simp only [Act.put, List.setIfInBounds_toArray, List.set_cons_zero, List.set_cons_succ])
              refine wpAnyH_take (i := 9) (v := ?_) rfl (by kernel_rfl) (by kernel_rfl) (by kernel_rfl) (fun _ _ _ h => h) (Or.inl ⟨by kernel_rfl, ?_⟩) (by assumption) ?_
              rotate_left
              · intro w hSw; (try dsimp only at hSw); go_simp; (try with_reducible rfl)
              (try simp only [Act.put, List.setIfInBounds_toArray, List.set_cons_zero, List.set_cons_succ])
              refine wpAnyH_take (i := 10) (v := ?_) rfl (by kernel_rfl) (by kernel_rfl) (by kernel_rfl) (fun _ _ _ h => h) (Or.inl ⟨by kernel_rfl, ?_⟩) (by assumption) ?_
              rotate_left
              · intro w hSw; (try dsimp only at hSw); go_simp; (try with_reducible rfl)
              (try simp only [Act.put, List.setIfInBounds_toArray, List.set_cons_zero, List.set_cons_succ])
              refine wpAnyH_take (i := 11) (v := ?_) rfl (by kernel_rfl) (by kernel_rfl) (by kernel_rfl) (fun _ _ _ h => h) (Or.inl ⟨by kernel_rfl, ?_⟩) (by assumption) ?_
              rotate_left
              · intro w hSw; (try dsimp only at hSw); go_simp; (try with_reducible rfl)
              (try simp only [Act.put, List.setIfInBounds_toArray, List.set_cons_zero, List.set_cons_succ])
              refine wpAnyH_take (i := 12) (v := ?_) rfl (by kernel_rfl) (by kernel_rfl) (by kernel_rfl) (fun _ _ _ h => h) (Or.inl ⟨by kernel_rfl, ?_⟩) (by assumption) ?_
              rotate_left
              · intro w hSw; (try dsimp only at hSw); go_simp; (try with_reducible rfl)
              (try simp only [Act.put, List.setIfInBounds_toArray, List.set_cons_zero, List.set_cons_succ])
              refine wpAnyH_take (i := 13) (v := ?_) rfl (by kernel_rfl) (by kernel_rfl) (by kernel_rfl) (fun _ _ _ h => h) (Or.inl ⟨by kernel_rfl, ?_⟩) (by assumption) ?_
              rotate_left
              · intro w hSw; (try dsimp only at hSw); go_simp; (try with_reducible rfl)
              (try simp only [Act.put, List.setIfInBounds_toArray, List.set_cons_zero, List.set_cons_succ])
              refine wpAnyH_take (i := 14) (v := ?_) rfl (by kernel_rfl) (by kernel_rfl) (by kernel_rfl) (fun _ _ _ h => h) (Or.inl ⟨by kernel_rfl, ?_⟩) (by assumption) ?_
              rotate_left
              · intro w hSw; (try dsimp only at hSw); go_simp; (try with_reducible rfl)
              (try simp only [Act.put, List.setIfInBounds_toArray, List.set_cons_zero, List.set_cons_succ])
              refine wpAnyH_ready (rs := [1, 15]) (by kernel_rfl) (by simp) ?_
              refine AllReadyH.cons rfl (fun K hK => ?_) (AllReadyH.cons rfl (fun K hK => ?_) AllReadyH.nil)
              · go_simp
                refine hK.out _ _ ⟨e0, e1, e2, e3⟩ (fun hHeld7 => ?_)
                clear hK K hHeld
                (try simp only [Act.put, List.setIfInBounds_toArray, List.set_cons_zero, List.set_cons_succ])
                refine wpAnyH_ready (rs := [15]) (by kernel_rfl) (by simp) ?_
                refine AllReadyH.cons rfl (fun K hK => ?_) AllReadyH.nil
                go_simp
                refine hK.out _ _ ⟨KK K0.out, KK K1.out, KK K2.out, KK K3.out⟩ (fun hHeld8 => ?_)
                clear hK K hHeld7 x0 x1 x2 x3 x4 zx0 zx1 zx2 zx3 zx4
                (try simp only [Act.put, List.setIfInBounds_toArray, List.set_cons_zero, List.set_cons_succ])
                refine wpAnyH_ready (rs := [16]) (by kernel_rfl) (by simp) ?_
                refine AllReadyH.cons rfl (fun K hK => ?_) AllReadyH.nil
                refine oper_append_cols (.tmp 71) (.tmp 85) rfl w.heap.size (.slice va vn vc) L rfl O1 wr.heap.size 1 1 [⟨u0, u1, u2, u3⟩] rfl rfl (q_new wr ⟨u0, u1, u2, u3⟩) ?_ ?_ ?_
                · rw [P7.out.N]; simp; omega
                · have := P7.out.B.size; simp; omega
                intro v8 w8 own8 hb8 hg8
                obtain ⟨a8, c8, hv8⟩ := own8.slice
                generalize (L ++ [(⟨u0, u1, u2, u3⟩ : Qc)]).length = n8 at hv8
                subst hv8
                have X8 : RI w8 b4 (W : Int) (H : Int) (.slice va vn vc) 0 0 := Blk.grownQ X1 O1 (by decide) hg8
                have A8 : RI w8 w.heap.size 0 0 (.slice none 0 0) 0 0 := Blk.grownQ A1 O1 (by decide) hg8
                have L8 := Blk.grownQ LB O1 (by decide) hg8
                have B8 := BB.trans hb8
                refine hK.out _ _ ⟨(Blk.cell L8 0).trans (HC0.out), (Blk.cell L8 1).trans (HC1.out), (Blk.cell L8 2).trans (HC2.out), (Blk.cell L8 3).trans (HC3.out)⟩ (fun hHeld9 => ?_)
                clear hK K
                (try simp only [Act.put, List.setIfInBounds_toArray, List.set_cons_zero, List.set_cons_succ])
                refine wpAnyH_take (i := 17) (v := ?_) rfl (by kernel_rfl) (by kernel_rfl) (by kernel_rfl) (fun _ _ _ h => h) (Or.inl ⟨by kernel_rfl, ?_⟩) (by assumption) ?_
                rotate_left
                · intro w hSw; (try dsimp only at hSw); go_simp; (try with_reducible rfl)
                (try simp only [Act.put, List.setIfInBounds_toArray, List.set_cons_zero, List.set_cons_succ])
                obtain ⟨x0, x1, x2, x3, x4, zx0, zx1, zx2, zx3, zx4, xl⟩ := RI.all X8
                refine wpAnyH_ready (rs := [18]) (by kernel_rfl) (by simp) ?_
                refine AllReadyH.cons rfl (fun K hK => ?_) AllReadyH.nil
                go_simp
                have L9 := Blk.far L8 (p := ⟨b4, 2, none⟩) (Blk.ne_ L8 X8 (by decide)) (.slice a8 n8 c8)
                have P9 : RefP w (w8.setCell ⟨b4, 2, none⟩ (.slice a8 n8 c8)) w.heap.size b4 W H (k + 1) (.slice a8 n8 c8) (L ++ [⟨u0, u1, u2, u3⟩]) s :=
                  ⟨Blk.far A8 (p := ⟨b4, 2, none⟩) hb4.out (.slice a8 n8 c8), (Blk.set_ X8 2 (.slice a8 n8 c8)).eq_ (by simp [ri5]), OwnsQ.farRI own8 X8, by rw [← HQC.out]; exact flat_snoc P7.out.F, by rw [List.length_append, P7.out.N]; rfl, below_set B8 hb4'⟩
                refine hK.out _ _ ⟨(Blk.cell L9 0).trans (HC0.out), (Blk.cell L9 1).trans (HC1.out), (Blk.cell L9 2).trans (HC2.out), (Blk.cell L9 3).trans (HC3.out)⟩ (fun hHeldA => ?_)
                clear hK K
                refine wpAnyH_done (by kernel_rfl) ?_ _
                change Exit.inBlock _ _ _ _ (w8.setCell ⟨b4, 2, none⟩ (.slice a8 n8 c8))
                generalize w8.setCell ⟨b4, 2, none⟩ (.slice a8 n8 c8) = w9 at P9 ⊢
                have HP9 := Lib.hid P9
                clear P9 L9 x0 x1 x2 x3 x4 zx0 zx1 zx2 zx3 zx4 X8 A8 L8 hHeld9 hHeldA
                go_wp2_with fail
                go_roundg (N - (k + 1))
                case measure => omega
                case rel => exact ⟨k + 1, (.slice a8 n8 c8), L ++ [⟨u0, u1, u2, u3⟩], by go_num, by omega, Lib.hid ⟨HP9.out, by rw [HNK.out]; exact HRUN.out⟩⟩
              · go_simp
                refine hK.out _ _ ⟨KK K0.out, KK K1.out, KK K2.out, KK K3.out⟩ (fun hHeld7 => ?_)
                clear hK K hHeld x0 x1 x2 x3 x4 zx0 zx1 zx2 zx3 zx4
                (try simp only [Act.put, List.setIfInBounds_toArray, List.set_cons_zero, List.set_cons_succ])
                obtain ⟨x0, x1, x2, x3, x4, zx0, zx1, zx2, zx3, zx4, xl⟩ := RI.all X1
                refine wpAnyH_ready (rs := [1]) (by kernel_rfl) (by simp) ?_
                refine AllReadyH.cons rfl (fun K hK => ?_) AllReadyH.nil
                go_simp
                refine hK.out _ _ ⟨KK K0.out, KK K1.out, KK K2.out, KK K3.out⟩ (fun hHeld8 => ?_)
                clear hK K hHeld7 x0 x1 x2 x3 x4 zx0 zx1 zx2 zx3 zx4
                (try simp only [Act.put, List.setIfInBounds_toArray, List.set_cons_zero, List.set_cons_succ])
                refine wpAnyH_ready (rs := [16]) (by kernel_rfl) (by simp) ?_
                refine AllReadyH.cons rfl (fun K hK => ?_) AllReadyH.nil
                refine oper_append_cols (.tmp 71) (.tmp 85) rfl w.heap.size (.slice va vn vc) L rfl O1 wr.heap.size 1 1 [⟨u0, u1, u2, u3⟩] rfl rfl (q_new wr ⟨u0, u1, u2, u3⟩) ?_ ?_ ?_
                · rw [P7.out.N]; simp; omega
                · have := P7.out.B.size; simp; omega
                intro v8 w8 own8 hb8 hg8
                obtain ⟨a8, c8, hv8⟩ := own8.slice
                generalize (L ++ [(⟨u0, u1, u2, u3⟩ : Qc)]).length = n8 at hv8
                subst hv8
                have X8 : RI w8 b4 (W : Int) (H : Int) (.slice va vn vc) 0 0 := Blk.grownQ X1 O1 (by decide) hg8
                have A8 : RI w8 w.heap.size 0 0 (.slice none 0 0) 0 0 := Blk.grownQ A1 O1 (by decide) hg8
                have L8 := Blk.grownQ LB O1 (by decide) hg8
                have B8 := BB.trans hb8
                refine hK.out _ _ ⟨(Blk.cell L8 0).trans (HC0.out), (Blk.cell L8 1).trans (HC1.out), (Blk.cell L8 2).trans (HC2.out), (Blk.cell L8 3).trans (HC3.out)⟩ (fun hHeld9 => ?_)
                clear hK K
                (try simp only [Act.put, List.setIfInBounds_toArray, List.set_cons_zero, List.set_cons_succ])
                refine wpAnyH_take (i := 17) (v := ?_) rfl (by kernel_rfl) (by kernel_rfl) (by kernel_rfl) (fun _ _ _ h => h) (Or.inl ⟨by kernel_rfl, ?_⟩) (by assumption) ?_
                rotate_left
                · intro w hSw; (try dsimp only at hSw); go_simp; (try with_reducible rfl)
                (try simp only [Act.put, List.setIfInBounds_toArray, List.set_cons_zero, List.set_cons_succ])
                obtain ⟨x0, x1, x2, x3, x4, zx0, zx1, zx2, zx3, zx4, xl⟩ := RI.all X8
                refine wpAnyH_ready (rs := [18]) (by kernel_rfl) (by simp) ?_
                refine AllReadyH.cons rfl (fun K hK => ?_) AllReadyH.nil
                go_simp
                have L9 := Blk.far L8 (p := ⟨b4, 2, none⟩) (Blk.ne_ L8 X8 (by decide)) (.slice a8 n8 c8)
                have P9 : RefP w (w8.setCell ⟨b4, 2, none⟩ (.slice a8 n8 c8)) w.heap.size b4 W H (k + 1) (.slice a8 n8 c8) (L ++ [⟨u0, u1, u2, u3⟩]) s :=
                  ⟨Blk.far A8 (p := ⟨b4, 2, none⟩) hb4.out (.slice a8 n8 c8), (Blk.set_ X8 2 (.slice a8 n8 c8)).eq_ (by simp [ri5]), OwnsQ.farRI own8 X8, by rw [← HQC.out]; exact flat_snoc P7.out.F, by rw [List.length_append, P7.out.N]; rfl, below_set B8 hb4'⟩
                refine hK.out _ _ ⟨(Blk.cell L9 0).trans (HC0.out), (Blk.cell L9 1).trans (HC1.out), (Blk.cell L9 2).trans (HC2.out), (Blk.cell L9 3).trans (HC3.out)⟩ (fun hHeldA => ?_)
                clear hK K
                refine wpAnyH_done (by kernel_rfl) ?_ _
                change Exit.inBlock _ _ _ _ (w8.setCell ⟨b4, 2, none⟩ (.slice a8 n8 c8))
                generalize w8.setCell ⟨b4, 2, none⟩ (.slice a8 n8 c8) = w9 at P9 ⊢
                have HP9 := Lib.hid P9
                clear P9 L9 x0 x1 x2 x3 x4 zx0 zx1 zx2 zx3 zx4 X8 A8 L8 hHeld9 hHeldA
                go_wp2_with fail
                go_roundg (N - (k + 1))
                case measure => omega
                case rel => exact ⟨k + 1, (.slice a8 n8 c8), L ++ [⟨u0, u1, u2, u3⟩], by go_num, by omega, Lib.hid ⟨HP9.out, by rw [HNK.out]; exact HRUN.out⟩⟩
        · rw [ffPix_told_no (by omega)] at hrun
          have hszI : (s.size : Int) < (a : Int) + 8 := by omega
          have HRUN := Lib.hid hrun
          clear hrun HRUN0 hn ha
          go_wp2_with (go_at_call 68; refine (refBadC 1 _ _).mono ?_; rintro e w5 ⟨rfl, b5⟩; have f5 : RI w5 w.heap.size 0 0 (.slice none 0 0) 0 0 := Blk.below HP.out.A b5 (Blk.lt HP.out.A); obtain ⟨y0, y1, y2, y3, y4, yz0, yz1, yz2, yz3, yz4, yl⟩ := RI.all f5)
          exact bodyPost_ret (v := .agg #[.int .i64 0, .int .i64 0, .slice none 0 0, .int .i64 1, .int .i64 (s.size : Int)]) (by simp [results, Try.results26, go_sem, y0, y1, y2, y3, y4]) rfl (by rw [← HRUN.out]; exact ⟨Below.st5 (below_next HP.out.B b5) (Nat.le_refl _), rfl⟩)
      · obtain rfl : k = N := by omega
        have hltI : ¬ (k : Int) < (k : Int) := by omega
        have hrun := HRUN0.out
        rw [Nat.sub_self] at hrun
        have hrun' : DRes.img W H (ffBytes s k) = D := hrun
        have HRUN := Lib.hid hrun'
        obtain ⟨y0, y1, y2, y3, y4, yz0, yz1, yz2, yz3, yz4, yl⟩ := RI.all HP.out.A
        clear hrun hrun' HRUN0
        go_wp2_with fail
        exact bodyPost_ret (v := .agg #[.int .i64 (W : Int), .int .i64 (H : Int), (.slice va vn vc), .int .i64 0, .int .i64 0]) (by simp [results, Try.results26, go_sem, y0, y1, y2, y3, y4]) rfl (by have hD2 := HRUN.out; subst hD2; exact ⟨Below.st5 HP.out.B (Nat.le_refl _), _, L, rfl, OwnsQ.st5RI HP.out.O HP.out.A, HP.out.F, by rw [HP.out.N, HN.out]⟩)
end Go.Proofs.Ytfgcbhcfekonnaa
