/- tgarle.Pack. -/
import Derived.Test.YtlehkgkomjojmaaGreatGTga1
import Derived.Test.YtlehkgkomjojmaaGreatGWrA
import Derived.Deep.RegionLaw
namespace Go.Proofs.YtlehkgkomjojmaaGreat
open Go.RowKit
set_option linter.unusedVariables false
set_option linter.unusedSimpArgs false

/-- append(v, b): as a step of a region that draws -/
theorem step_append_byte {ops : Array Oper} {o : Oper} {a : Act} {w : World} {K : Act → World → Prop} {Q : Exit → Act → World → Prop} {E : Prop}
    (hgd : o.guard = none) (s x : Operand) (ho : o.op = .call { callee := .builtin .append, args := #[s, x], argTypes := #[22, 22] })
    (base : Nat) (v : Value) (l : List UInt8) (hs : a.eval s = v) (hown : Owns8 w base v l)
    (g : Addr) (hx : a.eval x = .slice (some g) 1 1) (b : UInt8) (hc : w.cell? g = some (.int .u8 (b.toNat : Int)))
    (hlen : l.length + 1 < 1099511627776) (hbase : base ≤ w.heap.size)
    (h : ∀ v' w', Owns8 w' base v' (l ++ [b]) → Below base w w' → K (a.put o.dst v') w') :
    if Region.wanted o (yielded ops a.tmps) = true then Oper.wp Tryz.prog o a w K Q else E := by
  have hw : Region.wanted o (yielded ops a.tmps) = true := by simp [Region.wanted, hgd]
  rw [if_pos hw]
  obtain ⟨i0, hi, hz0, hz1, hz2⟩ := info_parts info8
  obtain ⟨v', w', hr, h2, h3, h4⟩ := run_append_own (P := Tryz.prog) w base 22 o.type 5 i0 (.int .u8 0) 1 1 Tryz.underlying22 hi hz0 hz1 hz2 rfl (by decide) v l.length (C8 l) hown g 1 1 [.int .u8 (b.toNat : Int)] rfl (fun j u hj => by
    cases j with
    | zero => simp at hj; subst hj; simpa [Addr.add] using hc
    | succ j => simp at hj) (fun u hu => by simp at hu; subst hu; rfl) (by unfold maxLen; omega) (by omega) hbase
  unfold Oper.wp
  simp only [execOp, ho, resolve, invoke, builtin, Sem.run_bind, Sem.run_pure, Result.andThen_ok, List.map_toArray, List.map_cons, List.map_nil, hs, hx, hr]
  refine h v' w' ?_ (hown.below (Below.refl _ _) (Nat.le_refl _) hbase h3)
  show World.ownsRow _ _ _ _ _ _ _
  have e2 : C8 (l ++ [b]) = C8 l ++ [.int .u8 (b.toNat : Int)] := by simp [C8]
  rw [List.length_append, e2]
  exact h2
/-- append(v, s...): as a step of a region that draws -/
theorem step_append_str {ops : Array Oper} {o : Oper} {a : Act} {w : World} {K : Act → World → Prop} {Q : Exit → Act → World → Prop} {E : Prop}
    (hgd : o.guard = none) (s x : Operand) (ho : o.op = .call { callee := .builtin .append, args := #[s, x], argTypes := #[22, 9] })
    (base : Nat) (v : Value) (l : List UInt8) (hs : a.eval s = v) (hown : Owns8 w base v l)
    (r : ByteArray) (hx : a.eval x = .string r) (hlen : l.length + r.size < 1099511627776) (hbase : base ≤ w.heap.size)
    (h : ∀ v' w', Owns8 w' base v' (l ++ r.data.toList) → Below base w w' → K (a.put o.dst v') w') :
    if Region.wanted o (yielded ops a.tmps) = true then Oper.wp Tryz.prog o a w K Q else E := by
  have hw : Region.wanted o (yielded ops a.tmps) = true := by simp [Region.wanted, hgd]
  rw [if_pos hw]
  obtain ⟨i0, hi, hz0, hz1, hz2⟩ := info_parts info8
  obtain ⟨v', w', hr, h2, h3, h4⟩ := run_append_own_src (P := Tryz.prog) w base 22 9 o.type 5 i0 (.int .u8 0) 1 1 Tryz.underlying22 hi hz0 hz1 hz2 rfl (by decide) v l.length (C8 l) hown (.string r) r.size (byteCells r) (Src.ofString _ Tryz.underlying9 r) (by unfold maxLen; omega) (by omega) hbase
  unfold Oper.wp
  simp only [execOp, ho, resolve, invoke, builtin, Sem.run_bind, Sem.run_pure, Result.andThen_ok, List.map_toArray, List.map_cons, List.map_nil, hs, hx, hr]
  refine h v' w' ?_ (hown.below (Below.refl _ _) (Nat.le_refl _) hbase h3)
  show World.ownsRow _ _ _ _ _ _ _
  have e : (l ++ r.data.toList).length = l.length + r.size := by rw [List.length_append, list_len]
  have e2 : C8 (l ++ r.data.toList) = C8 l ++ byteCells r := by simp [C8, byteCells]
  rw [e, e2]
  exact h2

def RowIn (w : World) (a : Option Addr) (n c : Nat) (l : List ByteArray) : Prop := n = l.length ∧ n ≤ c ∧ (n = 0 ∨ ∃ b off, a = some ⟨b, off, none⟩ ∧ Texts w b off l)

theorem BL_head {r : List ByteArray} {s0 : ByteArray} (h : r[0]? = some s0) : (BL r).headD [] = s0.data.toList := by
  cases r with
  | nil => simp at h
  | cons x r => simp at h; subst h; rfl
theorem RowIn.cut {w : World} {b off n c k : Nat} {l : List ByteArray} (hl : n = l.length) (hc : n ≤ c) (ht : Texts w b off l) (hk : k ≤ n) : RowIn w (some ⟨b, off + k, none⟩) (n - k) (c - k) (l.drop k) :=
  ⟨by simp [hl], by omega, .inr ⟨b, off + k, rfl, fun j hj => by
    rw [List.length_drop] at hj
    rw [Nat.add_assoc, List.getElem_drop]
    exact ht (k + j) (by omega)⟩⟩
theorem lone_no {r : List ByteArray} {k : Nat} (h : Run 128 (r.drop k) 1) : ¬ Pair r k := by
  rintro ⟨h1, h2⟩
  refine h.stop (by omega) (by rw [List.length_drop]; omega) ?_
  rw [List.getElem?_drop, List.getElem?_drop]
  exact h2.symm
theorem lone_pair {r : List ByteArray} {k k4 : Nat} (h : Run 128 (r.drop k) k4) (h1 : 1 < k4) : Pair r k := by
  have h2 := h.len
  rw [List.length_drop] at h2
  have h3 := h.same 1 h1
  rw [List.getElem?_drop, List.getElem?_drop] at h3
  exact ⟨by omega, h3.symm⟩
theorem flat_next {r : List ByteArray} {j : Nat} {s : ByteArray} (h : r[j]? = some s) : ((BL r).take (j + 1)).flatten = ((BL r).take j).flatten ++ s.data.toList := by
  have e : (BL r)[j]? = some s.data.toList := by simp [BL, h]
  rw [List.take_add_one, e]
  simp
theorem acc_lone {acc : List UInt8} {r : List ByteArray} {L : Bytes} {k : Nat} {pb : UInt8} (h : acc ++ packL (BL r) = L) (hc : packL (BL r) = UInt8.ofNat (k - 1) :: (((BL r).take k).flatten ++ packL ((BL r).drop k))) (hb : pb = UInt8.ofNat (k - 1)) :
    acc ++ [pb] ++ ((BL r).take k).flatten ++ packL (BL (r.drop k)) = L := by
  rw [← h, hc, ← hb, BL_drop]
  simp
theorem RowIn.none {w : World} {a : Option Addr} {n c k : Nat} {l : List ByteArray} (hl : n = l.length) (hk : k = n) : RowIn w a (n - k) c (l.drop k) :=
  ⟨by simp [hl], by omega, .inl (by omega)⟩
theorem acc_run {acc : List UInt8} {r : List ByteArray} {L : Bytes} {k : Nat} {pb : UInt8} {s0 : ByteArray} (h : acc ++ packL (BL r) = L) (hc : packL (BL r) = UInt8.ofNat (127 + k) :: ((BL r).headD [] ++ packL ((BL r).drop k))) (hb : pb = UInt8.ofNat (127 + k)) (h0 : r[0]? = some s0) :
    acc ++ [pb] ++ s0.data.toList ++ packL (BL (r.drop k)) = L := by
  rw [← h, hc, BL_head h0, ← hb, BL_drop]
  simp
set_option maxRecDepth 100000 in
set_option maxHeartbeats 2000000 in
theorem pack_any {w : World} {a : Option Addr} {n c : Nat} {l : List ByteArray} (h : RowIn w a n c l) (hn : n ≤ 100000) (hz : ∀ s ∈ l, s.size ≤ 20) :
    Calls Tryz.prog 69 #[.slice a n c] w fun e w' => e = .returned (.string (strOf (packL (BL l)))) ∧ (packL (BL l)).length ≤ 2100000 ∧ Below w.heap.size w w' := by
  have H0 := Lib.hid h
  have HZ := Lib.hid hz
  have HN := Lib.hid hn
  clear h hz
  go_enter Tryz.func69, Tryz.ntmps69
  go_wp2_with fail
  go_step3
  go_wp2_with fail
  go_step3
  go_wp2_with fail
  go_loopg [0, 3, 4, 5, 7] n (fun g row out s4 s5 s7 wr => ∃ (a' : Option Addr) (c' : Nat) (r : List ByteArray) (acc : List UInt8), row = .slice a' g c' ∧ g ≤ n ∧ Hid (RowIn w a' g c' r ∧ (∀ s ∈ r, s.size ≤ 20) ∧ acc ++ packL (BL r) = packL (BL l)) ∧ acc.length + 21 * g ≤ 2100000 ∧ Owns8 wr w.heap.size out acc ∧ Below w.heap.size w wr)
  case atStart => exact ⟨a, c, l, [], rfl, Nat.le_refl _, Lib.hid ⟨H0.out, HZ.out, rfl⟩, by simp; omega, Owns8.nil _ _, Below.refl _ _⟩
  case round =>
    obtain ⟨a', c', r, acc, rfl, hgn, hH, hal, hown, hb⟩ := hrel
    obtain ⟨G, hGe⟩ : ∃ G, G = gk := ⟨_, rfl⟩
    subst hGe
    by_cases h0 : 0 < G
    · obtain ⟨⟨hl, hc', hat⟩, hz, hacc⟩ := hH.out
      obtain ⟨b, off, rfl, ht⟩ : ∃ b off, a' = some ⟨b, off, none⟩ ∧ Texts w b off r := by
        rcases hat with h | h
        · omega
        · exact h
      have htr : Texts wr b off r := fun j hj => (hb.cell (p := ⟨b, off + j, none⟩) (World.block_lt_of_cell? w _ (ht j hj))).trans (ht j hj)
      obtain ⟨s0, hs0, c0⟩ := htr.at_ (j := 0) (by omega)
      rw [Nat.add_zero] at c0
      have hbw : b < w.heap.size := World.block_lt_of_cell? w _ (ht 0 (by omega))
      have hz0 : s0.size ≤ 20 := hz s0 (List.mem_of_getElem? hs0)
      have CW : Hid (w.cell? ⟨b, off, none⟩ = some (.string s0)) := Lib.hid ((hb.cell (p := ⟨b, off, none⟩) hbw).symm.trans c0)
      have HT := Lib.hid ht
      have HTR := Lib.hid htr
      have HACC := Lib.hid hacc
      have HZ' := Lib.hid hz
      have HS0 := Lib.hid hs0
      have HRUN := Lib.hid (run_any (c := c') hl h0 (by omega) htr)
      have HL := Lib.hid hl
      have hsz := hb.size
      have h0i : (0 : Int) < (G : Int) := by omega
      clear hH hat ht htr hacc hz hs0 hl
      go_upto_region 4 with (go_at_call 120; refine HRUN.out.mono ?_; rintro e w2 ⟨k, m, rfl, hrun, rfl⟩)
      have o2 := hown.drewN m
      have b2 := below_drewN hb m
      have z2 : w.heap.size ≤ (wr.drewN m).heap.size := hsz
      have T2 : Hid (Texts (wr.drewN m) b off r) := Lib.hid HTR.out
      have c2 : (wr.drewN m).cell? ⟨b, off, none⟩ = some (.string s0) := c0
      generalize (wr.drewN m) = wx at o2 b2 z2 T2 c2 ⊢
      clear c0 HTR HRUN hown hb hsz
      have k1 := hrun.pos
      have k2 := hrun.le
      have k3 : k ≤ G := by rw [HL.out]; exact hrun.len
      have HR := Lib.hid (BL_run hrun)
      clear hrun
      by_cases hk : 1 < k
      · have hki : (1 : Int) < (k : Int) := by omega
        have HC := Lib.hid (packL_run HR.out hk)
        obtain ⟨pb, pb1, pb2⟩ : ∃ b : UInt8, Hid (b = UInt8.ofNat (127 + k)) ∧ Hid ((b.toNat : Int) = 127 + (k : Int)) := ⟨_, rfl, by show ((UInt8.ofNat (127 + k)).toNat : Int) = _; rw [ofNat8 (by omega)]; omega⟩
        have kc : k ≤ c' := by omega
        have WQ : Hid (IntKind.u8.wrap (IntKind.i64.wrap (127 + (k : Int))) = (pb.toNat : Int)) := Lib.hid (by rw [IntWalk.i64_in _ (by omega), pb2.out]; exact Int.emod_eq_of_lt (by omega) (by show _ < (256 : Int); omega))
        have nbw : b ≠ wx.heap.size := by omega
        have hbwr : b < wx.heap.size := by omega
        have cA : ∀ ob, (wx.drew.alloc ob).cell? ⟨b, off, none⟩ = some (.string s0) := fun ob => (World.cell?_of_block (Below.heap_alloc wx.drew ob b hbwr)).trans c2
        have o15 := o2.drew
        have b15 := b2.drew
        go_wp2_with fail
        go_cut [3] (fun v wc => Owns8 wc w.heap.size v (acc ++ [pb] ++ s0.data.toList) ∧ Below w.heap.size w wc)
        case first =>
          go_region_law (first
            | (refine step_append_byte rfl (.tmp 15) (.tmp 19) rfl w.heap.size _ acc rfl (o15.alloc _) _ rfl pb ?_ ?_ ?_ ?_; (exact (cell_new _ _ _ 0 _ rfl).trans (by rw [← WQ.out]; rfl)); (omega); (simp; omega); intro v1 w1 own1 hb1; have hb1' := (b15.alloc (by simp; omega) _).trans hb1; have c1 := (hb1'.cell (p := ⟨b, off, none⟩) hbw).trans CW.out; have hz1 := hb1'.size)
            | (refine step_append_str rfl (.tmp 20) (.tmp 23) rfl w.heap.size _ _ rfl own1 s0 rfl ?_ ?_ ?_; (simp; omega); (exact hz1); intro v2 w2 own2 hb2; have hb2' := hb1'.trans hb2))
          all_goals go_wp2_with fail
          all_goals
            go_meet
            case rel => exact ⟨own2, hb2'⟩
        case rest =>
          obtain ⟨own2, hb2⟩ := hcut
          have hl2 : (acc ++ [pb] ++ s0.data.toList).length = acc.length + 1 + s0.size := by simp [list_len]; omega
          go_wp2_with fail
          all_goals
            go_roundg (G - k)
            case measure => omega
            case rel => first
              | exact ⟨_, c' - k, r.drop k, _, rfl, by omega, Lib.hid ⟨RowIn.cut HL.out hc' HT.out k3, fun s hs => HZ'.out s (List.mem_of_mem_drop hs), acc_run HACC.out HC.out pb1.out HS0.out⟩, by rw [hl2]; omega, own2, hb2⟩
              | exact ⟨_, _, r.drop k, _, rfl, by omega, Lib.hid ⟨RowIn.none HL.out (by omega), fun s hs => HZ'.out s (List.mem_of_mem_drop hs), acc_run HACC.out HC.out pb1.out HS0.out⟩, by rw [hl2]; omega, own2, hb2⟩
      · obtain rfl : k = 1 := by omega
        have hk1 : ¬ (1 : Int) < (1 : Int) := by decide
        go_upto_block 2 with fail
        go_cut [5] (fun v wc => ∃ k2 m : Nat, v = .int .i64 (k2 : Int) ∧ Lone 128 r k2 ∧ wc = wx.drewN m)
        case first =>
          go_wp2_with fail
          go_loopg [5] 127 (fun g x w2 => ∃ k m : Nat, 128 = k + g ∧ 1 ≤ k ∧ k ≤ G ∧ k ≤ 128 ∧ x = .int .i64 (k : Int) ∧ Hid (∀ j, 1 ≤ j → j < k → ¬ Pair r j) ∧ w2 = wx.drewN m)
          case atStart => exact ⟨1, 0, by omega, by omega, by omega, by omega, rfl, Lib.hid (fun j h1 h2 => by omega), rfl⟩
          case round =>
            obtain ⟨k, m2, hg2, hk1', hk2', hk3', rfl, hno, rfl⟩ := hrel
            by_cases h63 : (128 : Int) < (G : Int)
            all_goals
              by_cases hlt : k < G ∧ k < 128
              · obtain ⟨l1, l2⟩ := hlt
                have l3 : (k : Int) < (G : Int) := by omega
                have l4 : (k : Int) < 128 := by omega
                have l5 : k ≤ c' := by omega
                have l6 : k ≠ c' := by omega
                have l7 : k < c' := by omega
                have HK := Lib.hid (run_any (w := wx.drewN m2) (b := b) (off := off + k) (c := c' - k) (l := r.drop k) (n := G - k) (by rw [HL.out]; simp) (by omega) (by omega) (fun j hj => by rw [List.length_drop] at hj; rw [Nat.add_assoc, List.getElem_drop]; exact T2.out (k + j) (by omega)))
                have HNO := Lib.hid hno
                have hr4 := runLen_run (m := 128) (l := r.drop k) (by omega) (by rw [List.length_drop, ← HL.out]; omega)
                have HR4 := Lib.hid hr4
                by_cases e4 : runLen 128 (r.drop k) = 1
                · rw [e4] at HR4 hr4
                  have HU := Lib.hid (fun k4 (q : Run 128 (r.drop k) k4) => run_unique q hr4)
                  clear hr4 e4
                  go_wp2_with (go_at_call 120; refine HK.out.mono ?_; rintro e w2 ⟨k4, m4, rfl, hrun4, rfl⟩; have e5 := HU.out k4 hrun4; clear hrun4; subst e5)
                  go_roundg (127 - k)
                  case measure => omega
                  case rel =>
                    exact ⟨k + 1, _, by omega, by omega, by omega, by omega, by go_num, Lib.hid (by
                      intro j h1 h2
                      rcases Nat.lt_succ_iff_lt_or_eq.1 h2 with h | rfl
                      · exact HNO.out j h1 h
                      · exact lone_no HR4.out), by first | rfl | exact World.drewN_drewN _ _ _⟩
                · have p4 := hr4.pos
                  have HU := Lib.hid (fun k4 (q : Run 128 (r.drop k) k4) => run_unique q hr4)
                  obtain ⟨K4, hK4⟩ : ∃ K4, K4 = runLen 128 (r.drop k) := ⟨_, rfl⟩
                  rw [← hK4] at HU HR4 e4 p4
                  have e6 : ((K4 : Int) == 1) = false := beq_eq_false_iff_ne.2 (by omega)
                  have e7 : 1 < K4 := by omega
                  clear hr4 hK4
                  go_wp2_with (go_at_call 120; refine HK.out.mono ?_; rintro e w2 ⟨k4, m4, rfl, hrun4, rfl⟩; have e5 := HU.out k4 hrun4; clear hrun4; subst e5)
                  go_meet
                  case rel => exact ⟨k, _, rfl, ⟨hk1', hk3', by rw [← HL.out]; omega, HNO.out, fun _ _ => lone_pair HR4.out e7⟩, by first | rfl | exact World.drewN_drewN _ _ _⟩
              · have q1 : k = G ∨ k = 128 := by omega
                have HNO := Lib.hid hno
                first
                  | (have l4 : decide ((k : Int) < 128) = false := decide_eq_false (by omega)
                     go_wp2_with fail
                     go_meet
                     case rel => exact ⟨k, _, rfl, ⟨hk1', hk3', by rw [← HL.out]; exact hk2', HNO.out, fun a b => by rw [← HL.out] at b; omega⟩, rfl⟩)
                  | (have l4 : decide (k < G) = false := decide_eq_false (by omega)
                     go_wp2_with fail
                     go_meet
                     case rel => exact ⟨k, _, rfl, ⟨hk1', hk3', by rw [← HL.out]; exact hk2', HNO.out, fun a b => by rw [← HL.out] at b; omega⟩, rfl⟩)
        case rest =>
          obtain ⟨k, m2, rfl, hlone, rfl⟩ := hcut
          have p1 := hlone.pos
          have p2 := hlone.le
          have p3 : k ≤ G := by rw [HL.out]; exact hlone.len
          have HC := Lib.hid (packL_lone HR.out (BL_lone hlone))
          clear hlone
          obtain ⟨pb, pb1, pb2⟩ : ∃ b : UInt8, Hid (b = UInt8.ofNat (k - 1)) ∧ Hid ((b.toNat : Int) = (k : Int) - 1) := ⟨_, rfl, by show ((UInt8.ofNat (k - 1)).toNat : Int) = _; rw [ofNat8 (by omega)]; omega⟩
          have o4 := o2.drewN m2
          have b4 := below_drewN b2 m2
          have z4 : w.heap.size ≤ (wx.drewN m2).heap.size := z2
          generalize (wx.drewN m2) = wy at o4 b4 z4 ⊢
          clear o2 b2 z2 T2 c2
          have kc : k ≤ c' := by omega
          go_wp2_with (at_builtin; refine wpList_append_byte rfl (.tmp 42) (.tmp 46) rfl w.heap.size _ acc rfl (o4.alloc _) _ rfl pb ?_ ?_ ?_ ?_; (exact (cell_new _ _ _ 0 _ rfl).trans (by rw [pb2.out]; rfl)); (omega); (simp; omega); intro v1 w1 own1 hb1 _; have hb1' := (b4.alloc z4 _).trans hb1)
          go_loopg [3, 7, 52] k (fun g v s7 x w2 => ∃ j : Nat, Hid (k = j + g) ∧ j ≤ k ∧ x = .int .i64 (j : Int) ∧ Hid (∃ xs : List UInt8, xs = ((BL r).take j).flatten ∧ Owns8 w2 w.heap.size v (acc ++ [pb] ++ xs) ∧ xs.length ≤ 20 * j) ∧ Below w.heap.size w w2)
          case atStart => exact ⟨0, Lib.hid (by omega), by omega, rfl, Lib.hid ⟨[], by simp, by simpa using own1, by simp⟩, hb1'⟩
          case round =>
            obtain ⟨j, hg3, hjk, rfl, hX, hb3⟩ := hrel
            by_cases hj : j < k
            · obtain ⟨sj, hsj, cj0⟩ := HT.out.at_ (j := j) (by rw [← HL.out]; omega)
              have hjz := HZ'.out sj (List.mem_of_getElem? hsj)
              have cj := (hb3.cell (p := ⟨b, off + j, none⟩) (World.block_lt_of_cell? w _ cj0)).trans cj0
              obtain ⟨xs, hxs, own3, hxl⟩ := hX.out
              have HXS := Lib.hid hxs
              have HSJ := Lib.hid hsj
              have hji : (j : Int) < (k : Int) := by omega
              have z3 := hb3.size
              have lxs : (acc ++ [pb] ++ xs).length = acc.length + 1 + xs.length := by simp; omega
              clear hX hxs hsj cj0
              go_wp2_with (at_builtin; refine wpList_append_str rfl (.tmp 56) (.tmp 57) rfl w.heap.size _ _ rfl own3 sj rfl ?_ ?_ ?_; (rw [lxs]; omega); (exact z3); intro v4 w4 own4 hb4 _; have hb4' := hb3.trans hb4)
              go_roundg (k - (j + 1))
              case measure => have := hg3.out; omega
              case rel =>
                exact ⟨j + 1, Lib.hid (by omega), by omega, by go_num, Lib.hid ⟨xs ++ sj.data.toList, by rw [flat_next HSJ.out, HXS.out], by rw [← List.append_assoc]; exact own4, by rw [List.length_append, list_len]; omega⟩, hb4'⟩
            · obtain rfl : j = k := by omega
              obtain ⟨xs, hxs, own3, hxl⟩ := hX.out
              have lxs : (acc ++ [pb] ++ xs).length = acc.length + 1 + xs.length := by simp; omega
              have HEQ := Lib.hid (acc_lone HACC.out HC.out pb1.out)
              rw [← hxs] at HEQ
              clear hX hxs
              go_wp2_with fail
              all_goals
                go_roundg (G - j)
                case measure => omega
                case rel => first
                  | exact ⟨_, c' - j, r.drop j, _, rfl, by omega, Lib.hid ⟨RowIn.cut HL.out hc' HT.out p3, fun s hs => HZ'.out s (List.mem_of_mem_drop hs), HEQ.out⟩, by rw [lxs]; omega, own3, hb3⟩
                  | exact ⟨_, _, r.drop j, _, rfl, by omega, Lib.hid ⟨RowIn.none HL.out (by omega), fun s hs => HZ'.out s (List.mem_of_mem_drop hs), HEQ.out⟩, by rw [lxs]; omega, own3, hb3⟩
    · go_wp2_with (refine wpList_convert_owned rfl (.tmp 63) 9 Tryz.underlying9 rfl _ _ _ rfl hown ?_)
      rw [Exit.noGoto_ret]
      go_ret
      obtain ⟨⟨hl, _, _⟩, _, hacc⟩ := hH.out
      obtain rfl : r = [] := List.eq_nil_of_length_eq_zero (by omega)
      have hacc' : acc = packL (BL l) := by rw [← hacc]; simp [BL, packL_nil]
      exact ⟨ret1 (vstr (by rw [hacc'])), by rw [← hacc']; omega, hb⟩
end Go.Proofs.YtlehkgkomjojmaaGreat
