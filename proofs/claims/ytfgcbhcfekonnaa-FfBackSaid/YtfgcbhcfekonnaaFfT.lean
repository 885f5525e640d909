/- The document's Write of a farbfeld file. -/
import Derived.Test.YtfgcbhcfekonnaaFfS
import Derived.Deep.RegionHeld3
namespace Go.Proofs.Ytfgcbhcfekonnaa
open Go.RowKit
set_option linter.unusedVariables false
set_option linter.unusedSimpArgs false

theorem small_tdiv {W : Nat} (h : W ≤ 60) : Int.tdiv (W : Int) 16777216 = 0 ∧ Int.tdiv (W : Int) 65536 = 0 ∧ Int.tdiv (W : Int) 256 = 0 ∧ Int.tmod (W : Int) 256 = (W : Int) ∧ (W : Int) % 256 = (W : Int) := by
  have e : ∀ k : Int, 0 < k → Int.tdiv (W : Int) k = (W : Int) / k := fun k hk => Int.tdiv_eq_ediv_of_nonneg (by omega)
  rw [e _ (by decide), e _ (by decide), e _ (by decide), Int.tmod_eq_emod_of_nonneg (by omega)]
  omega
/-- append(v, a row of bytes...): one operation; what grows is told -/
theorem oper_append_row2 {o : Oper} {a : Act} {w : World} {K : Act → World → Prop} {Q : Exit → Act → World → Prop}
    (s x : Operand) (ho : o.op = .call { callee := .builtin .append, args := #[s, x], argTypes := #[44, 44] })
    (base : Nat) (v : Value) (l m : List UInt8) (hs : a.eval s = v) (hown : Owns8 w base v l)
    (g n c : Nat) (hn : n = m.length) (hx : a.eval x = .slice (some ⟨g, 0, none⟩) n c) (hc : ∀ (j : Nat) (b : UInt8), m[j]? = some b → w.cell? ⟨g, j, none⟩ = some (.int .u8 (b.toNat : Int)))
    (hlen : l.length + m.length < 1099511627776) (hbase : base ≤ w.heap.size)
    (h : ∀ v' w', Owns8 w' base v' (l ++ m) → Below base w w' → w.grownBy w' v.ownBlock → K (a.put o.dst v') w') : Oper.wp Try.prog o a w K Q := by
  subst hn
  obtain ⟨i0, hi, hz0, hz1, hz2⟩ := info_parts info8
  obtain ⟨v', w', hr, h2, h3, h4⟩ := run_append_own (P := Try.prog) w base 44 o.type 5 i0 (.int .u8 0) 1 1 Try.underlying44 hi hz0 hz1 hz2 rfl (by decide) v l.length (C8 l) hown ⟨g, 0, none⟩ m.length c (C8 m) (by simp [C8]) (fun j u hj => by
    unfold C8 at hj
    rw [List.getElem?_map] at hj
    obtain ⟨b, hb, rfl⟩ := Option.map_eq_some_iff.1 hj
    rw [addrAdd, Nat.zero_add]; exact hc j b hb) (fun u hu => by unfold C8 at hu; obtain ⟨b, _, rfl⟩ := List.mem_map.1 hu; rfl) (by unfold maxLen; omega) (by omega) hbase
  unfold Oper.wp
  simp only [execOp, ho, resolve, invoke, builtin, Sem.run_bind, Sem.run_pure, Result.andThen_ok, List.map_toArray, List.map_cons, List.map_nil, hs, hx, hr]
  refine h v' w' ?_ (hown.below (Below.refl _ _) (Nat.le_refl _) hbase h3) h3
  show World.ownsRow _ _ _ _ _ _ _
  have e2 : C8 (l ++ m) = C8 l ++ C8 m := by simp [C8]
  rw [List.length_append, e2]
  exact h2
set_option maxRecDepth 100000 in
set_option maxHeartbeats 4000000 in
theorem refFfWrite {w : World} {W H n c b off : Nat} {l : List UInt8} (hW : W ≤ 60) (hH : H ≤ 60) (hl : n = l.length) (hn : n ≤ 100000) (hcell : ∀ j (hj : j < l.length), w.cell? ⟨b, off + j, none⟩ = some (.int .u8 (l[j].toNat : Int))) (hbw : b < w.heap.size) :
    Calls Try.prog 36 #[.agg #[.int .i64 (W : Int), .int .i64 (H : Int), .slice (some ⟨b, off, none⟩) n c]] w fun e w' => e = .returned (.string (strOf (ffFile W H l))) ∧ Below w.heap.size w w' := by
  have HL := Lib.hid hl
  have hWI : (W : Int) ≤ 60 := by omega
  have hHI : (H : Int) ≤ 60 := by omega
  have hsw := Lib.hid (And.intro (small_div hW) (small_tdiv hW))
  have hsh := Lib.hid (And.intro (small_div hH) (small_tdiv hH))
  have P0 : WrI w (w.alloc (.cells #[.int .i64 (W : Int), .int .i64 (H : Int), .slice (some ⟨b, off, none⟩) n c] 46)) W H n c b off l :=
    ⟨IB.new w (W : Int) (H : Int) (some ⟨b, off, none⟩) n c, fun j hj => (World.cell?_alloc_lt _ _ _ hbw).trans (hcell j hj), (Below.refl _ _).alloc (Nat.le_refl _) _⟩
  have hcv := convLit (w.alloc (.cells #[.int .i64 (W : Int), .int .i64 (H : Int), .slice (some ⟨b, off, none⟩) n c] 46))
  clear hl hcell
  have P1 := P0.next ((Below.refl _ _).alloc (Nat.le_refl _) (.cells #[.int .u8 102, .int .u8 97, .int .u8 114, .int .u8 98, .int .u8 102, .int .u8 101, .int .u8 108, .int .u8 100] 5 (8, 9)))
  have G1 := lit8_new (w.alloc (.cells #[.int .i64 (W : Int), .int .i64 (H : Int), .slice (some ⟨b, off, none⟩) n c] 46))
  have hz : (w.alloc (.cells #[.int .i64 (W : Int), .int .i64 (H : Int), .slice (some ⟨b, off, none⟩) n c] 46)).heap.size = w.heap.size + 1 := by simp
  rw [hz] at hcv G1
  clear hz P0
  generalize hq : w.heap.size + 1 = g1 at G1 hcv
  have hq' : w.heap.size + 1 = g1 := hq
  have HP2 := Lib.hid P1
  have HG2 := Lib.hid G1
  obtain ⟨e0, e1, e2, v0, v1, v2, il⟩ := IB.all P1.I
  clear hq P1 G1
  go_enter Try.func36, Try.ntmps36
  go_wp2_with fail
  have P3 := HP2.out.next ((Below.refl _ _).alloc (Nat.le_refl _) (.cells #[.int .i64 (W : Int), .int .i64 (H : Int)] 3))
  have G3 := HG2.out.below ((Below.refl _ _).alloc (Nat.le_refl _) (.cells #[.int .i64 (W : Int), .int .i64 (H : Int)] 3))
  have Z3 : Blk (((w.alloc (.cells #[.int .i64 (W : Int), .int .i64 (H : Int), .slice (some ⟨b, off, none⟩) n c] 46)).alloc (.cells #[.int .u8 102, .int .u8 97, .int .u8 114, .int .u8 98, .int .u8 102, .int .u8 101, .int .u8 108, .int .u8 100] 5 (8, 9))).alloc (.cells #[.int .i64 (W : Int), .int .i64 (H : Int)] 3)) (g1 + 1) 3 #[.int .i64 (W : Int), .int .i64 (H : Int)] := Blk.new_at _ _ _ (by simp; omega)
  generalize ((w.alloc (.cells #[.int .i64 (W : Int), .int .i64 (H : Int), .slice (some ⟨b, off, none⟩) n c] 46)).alloc (.cells #[.int .u8 102, .int .u8 97, .int .u8 114, .int .u8 98, .int .u8 102, .int .u8 101, .int .u8 108, .int .u8 100] 5 (8, 9))).alloc (.cells #[.int .i64 (W : Int), .int .i64 (H : Int)] 3) = w3 at P3 G3 Z3 ⊢
  generalize g1 + 1 = g2 at Z3 ⊢
  have HP3 := Lib.hid (And.intro P3 Z3)
  have HG3 := Lib.hid G3
  clear HP2 HG2 P3 G3 Z3 e0 e1 e2 v0 v1 v2 il hcv hq'
  go_loopg [3, 15] 2 (fun gh v4 v19 wr => Hid (WrI w wr W H n c b off l ∧ Blk wr g2 3 #[.int .i64 (W : Int), .int .i64 (H : Int)]) ∧ ((gh = 2 ∧ v19 = .int .i64 0 ∧ v4 = .slice (some ⟨g1, 0, none⟩) 8 8 ∧ Hid (Lit8 wr g1)) ∨ (gh = 1 ∧ v19 = .int .i64 1 ∧ Hid (Owns8 wr w.heap.size v4 (ffW8 ++ [0, 0, 0, UInt8.ofNat W]))) ∨ (gh = 0 ∧ v19 = .int .i64 2 ∧ Hid (Owns8 wr w.heap.size v4 (ffHd W H)))))
  case atStart => exact ⟨HP3, .inl ⟨rfl, rfl, rfl, HG3⟩⟩
  case round =>
    obtain ⟨hX, hor⟩ := hrel
    clear HP3 HG3
    rcases hor with ⟨rfl, rfl, rfl, hG⟩ | ⟨rfl, rfl, hO⟩ | ⟨rfl, rfl, hO⟩
    · have z0 := Blk.cell hX.out.2 0
      obtain ⟨⟨a1, a2, a3⟩, t1, t2, t3, t4, t5⟩ := hsw.out
      go_wp2_with (at_builtin; refine wpList_append_full rfl (.tmp 19) (.tmp 34) rfl w.heap.size g1 8 8 ffW8 [0, 0, 0, UInt8.ofNat W] rfl rfl (hG.out.below ((Below.refl _ _).alloc (Nat.le_refl _) _)) wr.heap.size 4 4 rfl rfl (cells_hd wr W hW) (by simp [ffW8]) (by simp [ffW8]) (by have := hX.out.1.B.size; simp; omega) ?_; intro v3 w3 own3 b3)
      go_roundg 1
      case measure => decide
      case rel =>
        have Z3 : Blk w3 g2 3 #[.int .i64 (W : Int), .int .i64 (H : Int)] := Blk.below (Blk.alloc hX.out.2 _) b3 (Blk.lt (Blk.alloc hX.out.2 _))
        exact ⟨Lib.hid ⟨(hX.out.1.next ((Below.refl _ _).alloc (Nat.le_refl _) _)).next b3, Z3⟩, .inr (.inl ⟨rfl, rfl, Lib.hid own3⟩)⟩
    · have own := hO.out
      have z1 := Blk.cell hX.out.2 1
      obtain ⟨⟨a1, a2, a3⟩, t1, t2, t3, t4, t5⟩ := hsh.out
      go_wp2_with (at_builtin; refine wpList_append_row rfl (.tmp 19) (.tmp 34) rfl w.heap.size _ _ [0, 0, 0, UInt8.ofNat H] rfl (own.alloc _) wr.heap.size 4 4 rfl rfl (cells_hd wr H hH) (by simp [ffW8]) (by have := hX.out.1.B.size; simp; omega) ?_; intro v3 w3 own3 b3 hg3)
      go_roundg 0
      case measure => decide
      case rel =>
        have P3 := hX.out.1.next ((Below.refl _ _).alloc (Nat.le_refl _) (.cells #[.int .u8 0, .int .u8 0, .int .u8 0, .int .u8 (H : Int)] 5))
        have Z3 : Blk w3 g2 3 #[.int .i64 (W : Int), .int .i64 (H : Int)] := Blk.grown8 (Blk.alloc hX.out.2 _) (own.alloc _) (by decide) hg3
        exact ⟨Lib.hid ⟨P3.grow (own.alloc _) hg3 (P3.B.trans b3) hbw (Nat.le_refl _), Z3⟩, .inr (.inr ⟨rfl, rfl, Lib.hid own3⟩)⟩
    · have HX := Lib.hid (And.intro hX.out.1 hO.out)
      clear hX hO
      go_wp2_with fail
      go_loopg [3, 6] n (fun gh v4 v40 wr => ∃ j, v40 = .int .i64 ((j : Nat) : Int) ∧ j + gh = n ∧ Hid (WrI w wr W H n c b off l ∧ Owns8 wr w.heap.size v4 (ffHd W H ++ dbl (l.take j))))
      case atStart => exact ⟨0, rfl, by omega, Lib.hid ⟨HX.out.1, by simpa [dbl] using HX.out.2⟩⟩
      case round =>
        obtain ⟨j, rfl, hj, hY⟩ := hrel
        clear HX
        obtain ⟨e0, e1, e2, v0, v1, v2, il⟩ := IB.all hY.out.1.I
        by_cases hlt : j < n
        · have hltI : (j : Int) < (n : Int) := by omega
          have hjl : j < l.length := by rw [← HL.out]; exact hlt
          have cj := hY.out.1.C j hjl
          have CJ := Lib.hid (show ∀ w', WrI w w' W H n c b off l → w'.cell? ⟨b, off + j, none⟩ = some (.int .u8 (l[j].toNat : Int)) from fun w' h => h.C j hjl)
          have HT := Lib.hid (dbl_take hjl)
          have hll : (ffHd W H ++ dbl (l.take j)).length + [l[j], l[j]].length < 1099511627776 := by rw [List.length_append, dbl_len, List.length_take]; simp [ffHd]; have := HL.out; omega
          generalize l[j] = u at cj HT hll CJ
          have P7 := hY.out.1.next ((Below.refl _ _).alloc (Nat.le_refl _) (.cells #[.int .u8 (u.toNat : Int), .int .u8 (u.toNat : Int)] 5)).drew
          have O7 := Owns8.drew (hY.out.2.alloc (.cells #[.int .u8 (u.toNat : Int), .int .u8 (u.toNat : Int)] 5))
          have bwr : b < wr.heap.size := World.block_lt_of_cell? _ _ cj
          go_upto_region 10 with fail
          refine wp_region_held_drew (S := (fun w' => w'.cell? ⟨w.heap.size, 2, none⟩ = some (.slice (some ⟨b, off, none⟩) n c) ∧ w'.cell? ⟨b, off + j, none⟩ = some (.int .u8 (u.toNat : Int)))) (by kernel_rfl) ⟨e2, cj⟩ (fun hHeld => ?_)
          refine wpAnyH_take (i := 0) (v := ?_) rfl (by kernel_rfl) (by kernel_rfl) (by kernel_rfl) (fun _ _ _ h => h) (Or.inl ⟨by kernel_rfl, ?_⟩) (by assumption) ?_
          rotate_left
          · intro w hSw; (try dsimp only at hSw); go_simp; (try with_reducible rfl)
          (try simp only [Act.put, List.setIfInBounds_toArray, List.set_cons_zero, List.set_cons_succ])
          refine wpAnyH_take (i := 1) (v := ?_) rfl (by kernel_rfl) (by kernel_rfl) (by kernel_rfl) (fun _ _ _ h => h) (Or.inl ⟨by kernel_rfl, ?_⟩) (by assumption) ?_
          rotate_left
          · intro w hSw; (try dsimp only at hSw); go_simp; (try with_reducible rfl)
          (try simp only [Act.put, List.setIfInBounds_toArray, List.set_cons_zero, List.set_cons_succ])
          refine wpAnyH_take (i := 2) (v := ?_) rfl (by kernel_rfl) (by kernel_rfl) (by kernel_rfl) (fun _ _ _ h => h) (Or.inl ⟨by kernel_rfl, ?_⟩) (by assumption) ?_
          rotate_left
          · intro w hSw; (try dsimp only at hSw); go_simp; (try with_reducible rfl)
          (try simp only [Act.put, List.setIfInBounds_toArray, List.set_cons_zero, List.set_cons_succ])
          refine wpAnyH_take (i := 3) (v := ?_) rfl (by kernel_rfl) (by kernel_rfl) (by kernel_rfl) (fun _ _ _ h => h) (Or.inl ⟨by kernel_rfl, ?_⟩) (by assumption) ?_
          rotate_left
          · intro w hSw; (try dsimp only at hSw); go_simp; (try with_reducible rfl)
          (try simp only [Act.put, List.setIfInBounds_toArray, List.set_cons_zero, List.set_cons_succ])
          refine wpAnyH_take (i := 4) (v := ?_) rfl (by kernel_rfl) (by kernel_rfl) (by kernel_rfl) (fun _ _ _ h => h) (Or.inl ⟨by kernel_rfl, ?_⟩) (by assumption) ?_
          rotate_left
          · intro w hSw; (try dsimp only at hSw); go_simp; (try with_reducible rfl)
          (try simp only [Act.put, List.setIfInBounds_toArray, List.set_cons_zero, List.set_cons_succ])
          refine wpAnyH_take (i := 5) (v := ?_) rfl (by kernel_rfl) (by kernel_rfl) (by kernel_rfl) (fun _ _ _ h => h) (Or.inl ⟨by kernel_rfl, ?_⟩) (by assumption) ?_
          rotate_left
          · intro w hSw; (try dsimp only at hSw); go_simp; (try with_reducible rfl)
          (try simp only [Act.put, List.setIfInBounds_toArray, List.set_cons_zero, List.set_cons_succ])
          refine wpAnyH_take (i := 6) (v := ?_) rfl (by kernel_rfl) (by kernel_rfl) (by kernel_rfl) (fun _ _ _ h => h) (Or.inl ⟨by kernel_rfl, ?_⟩) (by assumption) ?_
          rotate_left
          · intro w hSw; (try dsimp only at hSw); go_simp; (try with_reducible rfl)
          (try simp only [Act.put, List.setIfInBounds_toArray, List.set_cons_zero, List.set_cons_succ])
          refine wpAnyH_take (i := 7) (v := ?_) rfl (by kernel_rfl) (by kernel_rfl) (by kernel_rfl) (fun _ _ _ h => h) (Or.inl ⟨by kernel_rfl, ?_⟩) (by assumption) ?_
          rotate_left
          · intro w hSw; (try dsimp only at hSw); go_simp; (try with_reducible rfl)
          (try simp only [Act.put, List.setIfInBounds_toArray, List.set_cons_zero, List.set_cons_succ])
          refine wpAnyH_take (i := 8) (v := ?_) rfl (by kernel_rfl) (by kernel_rfl) (by kernel_rfl) (fun _ _ _ h => h) (Or.inl ⟨by kernel_rfl, ?_⟩) (by assumption) ?_
          rotate_left
          · intro w hSw; (try dsimp only at hSw); go_simp; (try with_reducible rfl)
          (try simp only [Act.put, List.setIfInBounds_toArray, List.set_cons_zero, List.set_cons_succ])
          refine wpAnyH_take (i := 9) (v := ?_) rfl (by kernel_rfl) (by kernel_rfl) (by kernel_rfl) (fun _ _ _ h => h) (Or.inl ⟨by kernel_rfl, ?_⟩) (by assumption) ?_
          rotate_left
          · intro w hSw; (try dsimp only at hSw); go_simp; (try with_reducible rfl)
          (try simp only [Act.put, List.setIfInBounds_toArray, List.set_cons_zero, List.set_cons_succ])
          refine wpAnyH_take (i := 10) (v := ?_) rfl (by kernel_rfl) (by kernel_rfl) (by kernel_rfl) (fun _ _ _ h => h) (Or.inl ⟨by kernel_rfl, ?_⟩) (by assumption) ?_
          rotate_left
          · intro w hSw; (try dsimp only at hSw); go_simp; (try with_reducible rfl)
          (try simp only [Act.put, List.setIfInBounds_toArray, List.set_cons_zero, List.set_cons_succ])
          refine wpAnyH_ready (rs := [11]) (by kernel_rfl) (by simp) ?_
          refine AllReadyH.cons rfl (fun K hK => ?_) AllReadyH.nil
          go_simp
          refine hK.out _ _ ⟨(IB.all P7.I).2.2.1, CJ.out _ P7⟩ (fun hHeld' => ?_)
          clear hK K hHeld
          (try simp only [Act.put, List.setIfInBounds_toArray, List.set_cons_zero, List.set_cons_succ])
          refine wpAnyH_ready (rs := [12]) (by kernel_rfl) (by simp) ?_
          refine AllReadyH.cons rfl (fun K hK => ?_) AllReadyH.nil
          refine oper_append_row2 (.tmp 44) (.tmp 55) rfl w.heap.size _ _ [u, u] rfl O7 wr.heap.size 2 2 rfl rfl (cells_two wr u) hll (by have := hY.out.1.B.size; simp; omega) ?_
          intro v3 w3 own3 b3 hg3
          have P9 := P7.grow O7 hg3 (P7.B.trans b3) hbw (Nat.le_refl _)
          refine hK.out _ _ ⟨(IB.all P9.I).2.2.1, CJ.out _ P9⟩ (fun hHeld => ?_)
          clear hK K hHeld'
          (try simp only [Act.put, List.setIfInBounds_toArray, List.set_cons_zero, List.set_cons_succ])
          refine wpAnyH_take (i := 13) (v := ?_) rfl (by kernel_rfl) (by kernel_rfl) (by kernel_rfl) (fun _ _ _ h => h) (Or.inl ⟨by kernel_rfl, ?_⟩) (by assumption) ?_
          rotate_left
          · intro w hSw; (try dsimp only at hSw); go_simp; (try with_reducible rfl)
          (try simp only [Act.put, List.setIfInBounds_toArray, List.set_cons_zero, List.set_cons_succ])
          refine wpAnyH_done (by kernel_rfl) ?_ _
          go_wp2_with fail
          go_roundg (n - (j + 1))
          case measure => omega
          case rel => exact ⟨j + 1, by go_num, by omega, Lib.hid ⟨P9, by rw [HT.out, ← List.append_assoc]; exact own3⟩⟩
        · obtain rfl : j = n := by omega
          have hltI : ¬ (j : Int) < (j : Int) := by omega
          have own := hY.out.2
          have HT : Hid (l.take j = l) := Lib.hid (List.take_of_length_le (by rw [← HL.out]; exact Nat.le_refl _))
          go_wp2_with (refine wpList_convert_owned rfl (.tmp 57) 9 Try.underlying9 rfl _ _ _ rfl own ?_)
          go_ret
          exact ⟨ret1 (vstr (by rw [HT.out]; rfl)), hY.out.1.B⟩
end Go.Proofs.Ytfgcbhcfekonnaa
