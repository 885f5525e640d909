/- Writing PNM: the bytes of a row of pixels. Writing PNM: the bytes of a row of pixels. pnmtext: a sample, a bit, a pixel of one sample, of three. The document's Read of pixels as text. The document's Read of samples as text. The document's Read of samples as text. -/
import Derived.Test.YthljhebbblhakaaGreatDoorEPnmWd
import Derived.Test.YthljhebbblhakaaGreatDoorEPnmW
import Derived.Test.YthljhebbblhakaaGreatDoorEPnmBst
import Derived.Test.YthljhebbblhakaaGreatDoorEScaler
import Derived.Test.YthljhebbblhakaaGreatDoorEPnmHd
import Derived.Test.YthljhebbblhakaaGreatDoorEBits
import Derived.Test.YthljhebbblhakaaGreatDoorEPnmHead
import Derived.Test.YthljhebbblhakaaGreatDoorEFfRef3
import Derived.Test.YthljhebbblhakaaGreatDoorEFfM
namespace Go.Proofs.YthljhebbblhakaaGreatDoor
open Go.RowKit
set_option linter.unusedVariables false
set_option linter.unusedSimpArgs false

/-- what holds at each pixel of a row -/
structure RoI (w0 w : World) (v : Value) (l : List UInt8) : Prop where
  O : Owns8 w w0.heap.size v l
  B : Below w0.heap.size w0 w
theorem Owns8.stays {w w' : World} {base : Nat} {v : Value} {l : List UInt8} (h : Owns8 w base v l) (b : Below w.heap.size w w') : Owns8 w' base v l := by
  refine ⟨h.1, ?_⟩
  rcases h.2 with h0 | ⟨r, cap, cur, hv, hb, hr, h4, h5, h6, h7⟩
  · exact .inl h0
  · refine .inr ⟨r, cap, cur, hv, hb, ?_, h4, h5, h6, h7⟩
    rw [b.block r (Array.getElem?_eq_some_iff.1 hr).1]
    exact hr
theorem RoI.below {w0 w w' : World} {v : Value} {l : List UInt8} (h : RoI w0 w v l) (b : Below w.heap.size w w') : RoI w0 w' v l := ⟨h.O.stays b, below_next h.B b⟩
theorem RoI.alloc {w0 w : World} {v : Value} {l : List UInt8} (h : RoI w0 w v l) (x : Obj) : RoI w0 (w.alloc x) v l := h.below ((Below.refl _ _).alloc (Nat.le_refl _) _)
theorem row_take {L : List Qc} {K i : Nat} {q : Qc} (h : L[i]? = some q) : ((L.take (i + 1)).map (pxB K)).flatten = ((L.take i).map (pxB K)).flatten ++ pxB K q := by
  have e : L.take (i + 1) = L.take i ++ [q] := by
    rw [List.take_add_one, h]
    rfl
  rw [e, List.map_append, List.flatten_append]
  simp
theorem Owns8.open4 {w : World} {base : Nat} {v : Value} {l : List UInt8} (h : Owns8 w base v l) (hl : 0 < l.length) : ∃ g cap cur, v = .slice (some ⟨g, 0, none⟩) l.length cap ∧ base ≤ g ∧ Blk w g 5 cur ∧ l.length ≤ cap ∧ cur.size = cap ∧ ∀ (j : Nat) (b : UInt8), l[j]? = some b → w.cell? ⟨g, j, none⟩ = some (.int .u8 (b.toNat : Int)) := by
  rcases h.2 with ⟨_, h0⟩ | ⟨r, cap, cur, hv, hb, hr, h4, h5, h6, h7⟩
  · omega
  · have hB : Blk w r 5 cur := hr
    have h6' : cur.size = cap := by omega
    refine ⟨r, cap, cur, hv, hb, hB, h4, h6', fun j b hj => ?_⟩
    have hjl : j < l.length := by
      rcases Nat.lt_or_ge j l.length with h | h
      · exact h
      · rw [List.getElem?_eq_none h] at hj; cases hj
    have e : cur[j]? = some (.int .u8 (b.toNat : Int)) := by
      have h8 : (cur.toList.take (l.length * 1))[j]? = (C8 l)[j]? := by rw [h7]
      rw [List.getElem?_take, if_pos (by omega)] at h8
      rw [← Array.getElem?_toList, h8]
      unfold C8
      rw [List.getElem?_map, hj]
      rfl
    have hjc : j < cur.size := by omega
    rw [Blk.cell hB j]
    exact e
set_option maxRecDepth 100000 in
set_option maxHeartbeats 8000000 in
theorem rawRow_5 {L : List Qc} {g0 n c : Nat} {w : World} (hn : L.length = n) (hb : n ≤ 20000) (hq : QAt w g0 0 L) (hg : g0 < w.heap.size) : Calls Tryz.prog 39 #[.slice (some ⟨g0, 0, none⟩) n c, .int .i64 5] w fun e w' => ∃ v, e = .returned v ∧ Owns8 w' w.heap.size v (encRow 5 L) ∧ Below w.heap.size w w' := by
  have HQ := Lib.hid (And.intro hq hg)
  have HN := Lib.hid hn
  clear hq hg hn
  go_enter Tryz.func39, Tryz.ntmps39
  go_upto_region 3 with fail
  go_loopg [5, 6, 7, 10] n (fun gh v5 v6 v7 v10 wr => ∃ i : Nat, i + gh = n ∧ v10 = .int .i64 (i : Int) ∧ Hid (RoI w wr v5 (((L.take i).map (pxB 5)).flatten)))
  case atStart => exact ⟨0, by omega, rfl, Lib.hid ⟨Owns8.nil _ _, Below.refl _ _⟩⟩
  case round =>
    obtain ⟨i, hi, rfl, HI⟩ := hrel
    by_cases hin : i < n
    · have hinI : (i : Int) < (n : Int) := by omega
      obtain ⟨m, rfl⟩ : ∃ m, gk = m + 1 := ⟨gk - 1, by omega⟩
      obtain ⟨q, hqi⟩ : ∃ q, L[i]? = some q := ⟨L[i]'(by rw [HN.out]; exact hin), List.getElem?_eq_getElem (by rw [HN.out]; exact hin)⟩
      obtain ⟨d0, d1, d2, d3⟩ := HQ.out.1 i q hqi
      rw [Nat.zero_add] at d0 d1 d2 d3
      have e0 := (HI.out.B.cell (p := ⟨g0, i * 4, none⟩) HQ.out.2).trans d0
      have e1 := (HI.out.B.cell (p := ⟨g0, i * 4 + 1, none⟩) HQ.out.2).trans d1
      have e2 := (HI.out.B.cell (p := ⟨g0, i * 4 + 2, none⟩) HQ.out.2).trans d2
      have e3 := (HI.out.B.cell (p := ⟨g0, i * 4 + 3, none⟩) HQ.out.2).trans d3
      have HQI := Lib.hid hqi
      clear d0 d1 d2 d3 hqi
      go_upto_region 5 with fail
      have I6 := HI.out.alloc (.cells #[.int .u8 (q.r.toNat : Int), .int .u8 (q.g.toNat : Int), .int .u8 (q.b.toNat : Int), .int .u8 (q.a.toNat : Int)] 48)
      have C6 : CB (wr.alloc (.cells #[.int .u8 (q.r.toNat : Int), .int .u8 (q.g.toNat : Int), .int .u8 (q.b.toNat : Int), .int .u8 (q.a.toNat : Int)] 48)) wr.heap.size (q.r.toNat : Int) (q.g.toNat : Int) (q.b.toNat : Int) (q.a.toNat : Int) := Blk.new _ _ _
      clear HI e0 e1 e2 e3
      generalize wr.alloc (.cells #[.int .u8 (q.r.toNat : Int), .int .u8 (q.g.toNat : Int), .int .u8 (q.b.toNat : Int), .int .u8 (q.a.toNat : Int)] 48) = w6 at I6 C6 ⊢
      generalize wr.heap.size = qc at C6 ⊢
      have c0 := C6.c0
      have c1 := C6.c1
      have c2 := C6.c2
      have HI6 := Lib.hid I6
      have HC6 := Lib.hid C6
      clear I6 C6
      have hbs : w.heap.size ≤ (w6.alloc (.cells #[.int .u8 (q.r.toNat : Int)] 5)).heap.size := by have := HI6.out.B.size; simp; omega
      have hlen : (((L.take i).map (pxB 5)).flatten).length < 1099511627776 := by
        have h : ∀ (M : List Qc), ((M.map (pxB 5)).flatten).length = M.length * 1 := by
          intro M
          induction M with
          | nil => rfl
          | cons x M ih => rw [List.map_cons, List.flatten_cons, List.length_append, ih, List.length_cons, Nat.add_mul]; simp [pxB]; omega
        rw [h, List.length_take]
        omega
      go_wp2_with (at_builtin; refine wpList_append_byte rfl (.tmp 48) (.tmp 51) rfl w.heap.size _ _ rfl (HI6.out.alloc _).O _ rfl q.r (cell_new _ _ _ 0 _ rfl) hlen hbs ?_; intro v8 w8 o8 b8 g8)
      have HB8 := Lib.hid ((HI6.out.alloc (.cells #[.int .u8 (q.r.toNat : Int)] 5)).B.trans b8)
      have HO8 : Hid (Owns8 w8 w.heap.size v8 (((L.take (i + 1)).map (pxB 5)).flatten)) := Lib.hid (by rw [row_take HQI.out]; exact o8)
      clear o8 b8 g8 HI6
      go_roundg m
      case measure => omega
      case rel => exact ⟨i + 1, by omega, by go_num, Lib.hid ⟨HO8.out, HB8.out⟩⟩
    · obtain rfl : i = n := by omega
      obtain rfl : gk = 0 := by omega
      have hinI : ¬ (i : Int) < (i : Int) := by omega
      have HF : Hid (RoI w wr u5 (encRow 5 L)) := Lib.hid (by
        have h := HI.out
        rw [List.take_of_length_le (show L.length ≤ i by rw [HN.out]; exact Nat.le_refl _)] at h
        unfold encRow
        rw [if_neg (by decide), if_neg (by decide)]
        exact h)
      go_wp2_with fail
      go_ret
      exact ⟨_, rfl, HF.out.O, HF.out.B⟩
set_option maxRecDepth 100000 in
set_option maxHeartbeats 8000000 in
theorem rawRow_6 {L : List Qc} {g0 n c : Nat} {w : World} (hn : L.length = n) (hb : n ≤ 20000) (hq : QAt w g0 0 L) (hg : g0 < w.heap.size) : Calls Tryz.prog 39 #[.slice (some ⟨g0, 0, none⟩) n c, .int .i64 6] w fun e w' => ∃ v, e = .returned v ∧ Owns8 w' w.heap.size v (encRow 6 L) ∧ Below w.heap.size w w' := by
  have HQ := Lib.hid (And.intro hq hg)
  have HN := Lib.hid hn
  clear hq hg hn
  go_enter Tryz.func39, Tryz.ntmps39
  go_upto_region 3 with fail
  go_loopg [5, 6, 7, 10] n (fun gh v5 v6 v7 v10 wr => ∃ i : Nat, i + gh = n ∧ v10 = .int .i64 (i : Int) ∧ Hid (RoI w wr v5 (((L.take i).map (pxB 6)).flatten)))
  case atStart => exact ⟨0, by omega, rfl, Lib.hid ⟨Owns8.nil _ _, Below.refl _ _⟩⟩
  case round =>
    obtain ⟨i, hi, rfl, HI⟩ := hrel
    by_cases hin : i < n
    · have hinI : (i : Int) < (n : Int) := by omega
      obtain ⟨m, rfl⟩ : ∃ m, gk = m + 1 := ⟨gk - 1, by omega⟩
      obtain ⟨q, hqi⟩ : ∃ q, L[i]? = some q := ⟨L[i]'(by rw [HN.out]; exact hin), List.getElem?_eq_getElem (by rw [HN.out]; exact hin)⟩
      obtain ⟨d0, d1, d2, d3⟩ := HQ.out.1 i q hqi
      rw [Nat.zero_add] at d0 d1 d2 d3
      have e0 := (HI.out.B.cell (p := ⟨g0, i * 4, none⟩) HQ.out.2).trans d0
      have e1 := (HI.out.B.cell (p := ⟨g0, i * 4 + 1, none⟩) HQ.out.2).trans d1
      have e2 := (HI.out.B.cell (p := ⟨g0, i * 4 + 2, none⟩) HQ.out.2).trans d2
      have e3 := (HI.out.B.cell (p := ⟨g0, i * 4 + 3, none⟩) HQ.out.2).trans d3
      have HQI := Lib.hid hqi
      clear d0 d1 d2 d3 hqi
      go_upto_region 5 with fail
      have I6 := HI.out.alloc (.cells #[.int .u8 (q.r.toNat : Int), .int .u8 (q.g.toNat : Int), .int .u8 (q.b.toNat : Int), .int .u8 (q.a.toNat : Int)] 48)
      have C6 : CB (wr.alloc (.cells #[.int .u8 (q.r.toNat : Int), .int .u8 (q.g.toNat : Int), .int .u8 (q.b.toNat : Int), .int .u8 (q.a.toNat : Int)] 48)) wr.heap.size (q.r.toNat : Int) (q.g.toNat : Int) (q.b.toNat : Int) (q.a.toNat : Int) := Blk.new _ _ _
      clear HI e0 e1 e2 e3
      generalize wr.alloc (.cells #[.int .u8 (q.r.toNat : Int), .int .u8 (q.g.toNat : Int), .int .u8 (q.b.toNat : Int), .int .u8 (q.a.toNat : Int)] 48) = w6 at I6 C6 ⊢
      generalize wr.heap.size = qc at C6 ⊢
      have c0 := C6.c0
      have c1 := C6.c1
      have c2 := C6.c2
      have HI6 := Lib.hid I6
      have HC6 := Lib.hid C6
      clear I6 C6
      have hbs : w.heap.size ≤ (w6.alloc (.cells #[.int .u8 (q.r.toNat : Int), .int .u8 (q.g.toNat : Int), .int .u8 (q.b.toNat : Int)] 5)).heap.size := by have := HI6.out.B.size; simp; omega
      have hlen : (((L.take i).map (pxB 6)).flatten).length + 3 < 1099511627776 := by
        have h : ∀ (M : List Qc), ((M.map (pxB 6)).flatten).length = M.length * 3 := by
          intro M
          induction M with
          | nil => rfl
          | cons x M ih => rw [List.map_cons, List.flatten_cons, List.length_append, ih, List.length_cons, Nat.add_mul]; simp [pxB]; omega
        rw [h, List.length_take]
        omega
      go_wp2_with (at_builtin; refine wpList_append_lit rfl (.tmp 16) (.tmp 23) rfl w.heap.size _ _ rfl (HI6.out.alloc _).O w6.heap.size 3 3 rfl [q.r, q.g, q.b] rfl _ (heap_alloc_new w6 _) rfl hlen hbs ?_; intro v8 w8 o8 b8 g8)
      have HB8 := Lib.hid ((HI6.out.alloc (.cells #[.int .u8 (q.r.toNat : Int), .int .u8 (q.g.toNat : Int), .int .u8 (q.b.toNat : Int)] 5)).B.trans b8)
      have HO8 : Hid (Owns8 w8 w.heap.size v8 (((L.take (i + 1)).map (pxB 6)).flatten)) := Lib.hid (by rw [row_take HQI.out]; exact o8)
      clear o8 b8 g8 HI6
      go_roundg m
      case measure => omega
      case rel => exact ⟨i + 1, by omega, by go_num, Lib.hid ⟨HO8.out, HB8.out⟩⟩
    · obtain rfl : i = n := by omega
      obtain rfl : gk = 0 := by omega
      have hinI : ¬ (i : Int) < (i : Int) := by omega
      have HF : Hid (RoI w wr u5 (encRow 6 L)) := Lib.hid (by
        have h := HI.out
        rw [List.take_of_length_le (show L.length ≤ i by rw [HN.out]; exact Nat.le_refl _)] at h
        unfold encRow
        rw [if_neg (by decide), if_neg (by decide)]
        exact h)
      go_wp2_with fail
      go_ret
      exact ⟨_, rfl, HF.out.O, HF.out.B⟩
end Go.Proofs.YthljhebbblhakaaGreatDoor
namespace Go.Proofs.YthljhebbblhakaaGreatDoor
open Go.RowKit
set_option linter.unusedVariables false
set_option linter.unusedSimpArgs false

set_option maxRecDepth 100000 in
set_option maxHeartbeats 8000000 in
theorem rawRow_4 {L : List Qc} {g0 n c : Nat} {w : World} (hn : L.length = n) (hb : n ≤ 20000) (hq : QAt w g0 0 L) (hg : g0 < w.heap.size) : Calls Tryz.prog 39 #[.slice (some ⟨g0, 0, none⟩) n c, .int .i64 4] w fun e w' => ∃ v, e = .returned v ∧ Owns8 w' w.heap.size v (encRow 4 L) ∧ Below w.heap.size w w' := by
  have HQ := Lib.hid (And.intro hq hg)
  have HN := Lib.hid hn
  clear hq hg hn
  go_enter Tryz.func39, Tryz.ntmps39
  go_upto_region 3 with fail
  go_loopg [5, 6, 7, 10] n (fun gh v5 v6 v7 v10 wr => ∃ i : Nat, i + gh = n ∧ v10 = .int .i64 (i : Int) ∧ Hid (RoI w wr v5 (row4B (L.take i))))
  case atStart => exact ⟨0, by omega, rfl, Lib.hid ⟨by rw [List.take_zero]; exact Owns8.nil _ _, Below.refl _ _⟩⟩
  case round =>
    obtain ⟨i, hi, rfl, HI⟩ := hrel
    by_cases hin : i < n
    · have hinI : (i : Int) < (n : Int) := by omega
      obtain ⟨m, rfl⟩ : ∃ m, gk = m + 1 := ⟨gk - 1, by omega⟩
      obtain ⟨q, hqi⟩ : ∃ q, L[i]? = some q := ⟨L[i]'(by rw [HN.out]; exact hin), List.getElem?_eq_getElem (by rw [HN.out]; exact hin)⟩
      obtain ⟨d0, d1, d2, d3⟩ := HQ.out.1 i q hqi
      rw [Nat.zero_add] at d0 d1 d2 d3
      have e0 := (HI.out.B.cell (p := ⟨g0, i * 4, none⟩) HQ.out.2).trans d0
      have e1 := (HI.out.B.cell (p := ⟨g0, i * 4 + 1, none⟩) HQ.out.2).trans d1
      have e2 := (HI.out.B.cell (p := ⟨g0, i * 4 + 2, none⟩) HQ.out.2).trans d2
      have e3 := (HI.out.B.cell (p := ⟨g0, i * 4 + 3, none⟩) HQ.out.2).trans d3
      have HQI := Lib.hid hqi
      clear d0 d1 d2 d3 hqi
      go_upto_region 5 with fail
      have I6 := HI.out.alloc (.cells #[.int .u8 (q.r.toNat : Int), .int .u8 (q.g.toNat : Int), .int .u8 (q.b.toNat : Int), .int .u8 (q.a.toNat : Int)] 48)
      have C6 : CB (wr.alloc (.cells #[.int .u8 (q.r.toNat : Int), .int .u8 (q.g.toNat : Int), .int .u8 (q.b.toNat : Int), .int .u8 (q.a.toNat : Int)] 48)) wr.heap.size (q.r.toNat : Int) (q.g.toNat : Int) (q.b.toNat : Int) (q.a.toNat : Int) := Blk.new _ _ _
      clear HI e0 e1 e2 e3
      generalize wr.alloc (.cells #[.int .u8 (q.r.toNat : Int), .int .u8 (q.g.toNat : Int), .int .u8 (q.b.toNat : Int), .int .u8 (q.a.toNat : Int)] 48) = w6 at I6 C6 ⊢
      generalize wr.heap.size = qc at C6 ⊢
      have c0 := C6.c0
      have c1 := C6.c1
      have c2 := C6.c2
      have HI6 := Lib.hid I6
      have HC6 := Lib.hid C6
      clear I6 C6
      by_cases h8 : i % 8 = 0
      · have h8I : (i : Int) % 8 = 0 := by omega
        have h8B : ((i : Int) % 8 == 0) = true := by rw [beq_iff_eq]; exact h8I
        have hbs : w.heap.size ≤ (w6.alloc (.cells #[.int .u8 0] 5)).heap.size := by have := HI6.out.B.size; simp; omega
        have hlen : (row4B (L.take i)).length < 1099511627776 := by unfold row4B; rw [List.length_map, List.length_range, List.length_take]; omega
        go_upto_region 10 with (at_builtin; refine wpList_append_byte rfl (.tmp 30) (.tmp 31) rfl w.heap.size _ _ rfl (HI6.out.alloc _).O _ rfl 0 (cell_new _ _ _ 0 _ rfl) hlen hbs ?_; intro v8 w8 o8 b8 g8)
        have HX : Hid (RoI w w8 v8 (rowX L i)) := Lib.hid ⟨by rw [← rowX_new h8 (by rw [HN.out]; exact hin)]; exact o8, (HI6.out.alloc (.cells #[.int .u8 0] 5)).B.trans b8⟩
        have C8' : CB w8 qc (q.r.toNat : Int) (q.g.toNat : Int) (q.b.toNat : Int) (q.a.toNat : Int) := Blk.grown8 (Blk.alloc HC6.out (.cells #[.int .u8 0] 5)) (HI6.out.alloc _).O (by decide) g8
        clear o8 b8 g8 HI6 c0 c1 c2 h8I h8B hlen hbs
        have c0 := C8'.c0
        obtain ⟨g, cap, cur, hv, hbg, hB, hlc, hcs, hcl⟩ := Owns8.open4 HX.out.O (by rw [rowX_len]; omega)
        rw [rowX_len] at hv hlc
        by_cases hblk : q.r = 0
        · have hr0 : ((q.r.toNat : Int) == 0) = true := by rw [hblk]; rfl
          have hbit : bit4 L i = 1 := by unfold bit4; rw [HQI.out]; simp only [hblk]; rfl
          obtain ⟨x, hx⟩ : ∃ x, pk4 (L.take i) (i / 8) = x := ⟨_, rfl⟩
          have hx256 : x < 256 := by rw [← hx]; exact pk4_lt _ _
          have hlow := pk4_low L i
          rw [hx] at hlow
          obtain ⟨j, hj⟩ : ∃ j, i / 8 = j := ⟨_, rfl⟩
          obtain ⟨k, hk⟩ : ∃ k, i % 8 = k := ⟨_, rfl⟩
          have hk8 : k < 8 := by omega
          rw [hk] at hlow
          have hor := or_bit x k hk8 hx256 hlow
          obtain ⟨y, hy⟩ : ∃ y, x + 2 ^ (7 - k) = y := ⟨_, rfl⟩
          rw [hy] at hor
          have hset := rowX_black (L := L) (i := i) (by rw [HN.out]; exact hin) hbit
          rw [hx, hk, hy] at hset
          have hy256 : y < 256 := by
            obtain ⟨m2, hm2⟩ : ∃ m2, x = 2 ^ (8 - k) * m2 := ⟨x / 2 ^ (8 - k), by have := Nat.div_add_mod x (2 ^ (8 - k)); omega⟩
            rw [← hy]
            have hkk : k = 0 ∨ k = 1 ∨ k = 2 ∨ k = 3 ∨ k = 4 ∨ k = 5 ∨ k = 6 ∨ k = 7 := by omega
            rcases hkk with rfl | rfl | rfl | rfl | rfl | rfl | rfl | rfl <;> simp only [Nat.reduceSub, Nat.reducePow] at hlow ⊢ <;> omega
          have hyv : ((UInt8.ofNat y).toNat : Int) = (y : Int) := by rw [UInt8.toNat_ofNat', Nat.mod_eq_of_lt (by omega)]
          have hcell : w8.cell? ⟨g, j, none⟩ = some (.int .u8 (x : Int)) := by
            rw [hcl j (UInt8.ofNat x) (by rw [← hx]; unfold rowX; rw [List.getElem?_map, List.getElem?_range (by omega)]; rw [hj]; rfl), UInt8.toNat_ofNat', Nat.mod_eq_of_lt (by omega)]
          have hfz : w8.frozen? ⟨g, j, none⟩ = false := Blk.frozen hB j
          have hgl := Blk.lt hB
          have hiI : (i : Int) / 8 = (j : Int) := by omega
          have hkI : (i : Int) % 8 = (k : Int) := by omega
          have hwj : IntKind.i64.wrap (j : Int) = (j : Int) := IntWalk.i64_in _ (by omega)
          have hwk : IntKind.i64.wrap (k : Int) = (k : Int) := IntWalk.i64_in _ (by omega)
          have hjl : (j : Int) < ((i / 8 + 1 : Nat) : Int) := by omega
          obtain ⟨nn, hnn⟩ : ∃ nn, i / 8 + 1 = nn := ⟨_, rfl⟩
          rw [hnn] at hv hjl
          have hO := HX.out.O
          rw [hv] at hO
          have HS2 : Hid (RoI w (w8.setCell ⟨g, j, none⟩ (.int .u8 (y : Int))).drew (.slice (some ⟨g, 0, none⟩) nn cap) (row4B (L.take (i + 1)))) := Lib.hid (by
            have h := Owns8.set (b := UInt8.ofNat y) hO (j := j) (by rw [rowX_len]; omega)
            rw [hyv] at h
            rw [hj] at hset
            rw [hset] at h
            exact ⟨h.drew, (below_set HX.out.B hbg).drew⟩)
          have hjI : (j : Int) ≤ 20000 := by omega
          subst hv
          clear hlow hO hset hyv hx hk hj hy hcl hB hblk hbit hnn
          go_upto_region 11 with fail
          go_region
          all_goals go_wp2_with fail
          go_roundg m
          case measure => omega
          case rel => exact ⟨i + 1, by omega, by go_num, HS2⟩
        · have hr0 : ((q.r.toNat : Int) == 0) = false := by rw [beq_eq_false_iff_ne]; intro h; exact hblk (UInt8.toNat_inj.1 (by rw [show (0 : UInt8).toNat = 0 from rfl]; omega))
          have hbit : bit4 L i = 0 := by unfold bit4; rw [HQI.out]; simp only [if_neg hblk]
          have HX2 : Hid (RoI w w8 v8 (row4B (L.take (i + 1)))) := Lib.hid (by rw [← rowX_white (by rw [HN.out]; exact hin) hbit]; exact HX.out)
          clear hblk hbit hB hcl hlc hcs hv
          go_wp2_with fail
          go_roundg m
          case measure => omega
          case rel => exact ⟨i + 1, by omega, by go_num, HX2⟩
      · have h8B : ((i : Int) % 8 == 0) = false := by rw [beq_eq_false_iff_ne]; omega
        go_upto_region 10 with fail
        have HX : Hid (RoI w w6 u5 (rowX L i)) := Lib.hid (by rw [← rowX_old h8 (by rw [HN.out]; exact hin)]; exact HI6.out)
        clear HI6 h8B
        obtain ⟨g, cap, cur, hv, hbg, hB, hlc, hcs, hcl⟩ := Owns8.open4 HX.out.O (by rw [rowX_len]; omega)
        rw [rowX_len] at hv hlc
        by_cases hblk : q.r = 0
        · have hr0 : ((q.r.toNat : Int) == 0) = true := by rw [hblk]; rfl
          have hbit : bit4 L i = 1 := by unfold bit4; rw [HQI.out]; simp only [hblk]; rfl
          obtain ⟨x, hx⟩ : ∃ x, pk4 (L.take i) (i / 8) = x := ⟨_, rfl⟩
          have hx256 : x < 256 := by rw [← hx]; exact pk4_lt _ _
          have hlow := pk4_low L i
          rw [hx] at hlow
          obtain ⟨j, hj⟩ : ∃ j, i / 8 = j := ⟨_, rfl⟩
          obtain ⟨k, hk⟩ : ∃ k, i % 8 = k := ⟨_, rfl⟩
          have hk8 : k < 8 := by omega
          rw [hk] at hlow
          have hor := or_bit x k hk8 hx256 hlow
          obtain ⟨y, hy⟩ : ∃ y, x + 2 ^ (7 - k) = y := ⟨_, rfl⟩
          rw [hy] at hor
          have hset := rowX_black (L := L) (i := i) (by rw [HN.out]; exact hin) hbit
          rw [hx, hk, hy] at hset
          have hy256 : y < 256 := by
            obtain ⟨m2, hm2⟩ : ∃ m2, x = 2 ^ (8 - k) * m2 := ⟨x / 2 ^ (8 - k), by have := Nat.div_add_mod x (2 ^ (8 - k)); omega⟩
            rw [← hy]
            have hkk : k = 0 ∨ k = 1 ∨ k = 2 ∨ k = 3 ∨ k = 4 ∨ k = 5 ∨ k = 6 ∨ k = 7 := by omega
            rcases hkk with rfl | rfl | rfl | rfl | rfl | rfl | rfl | rfl <;> simp only [Nat.reduceSub, Nat.reducePow] at hlow ⊢ <;> omega
          have hyv : ((UInt8.ofNat y).toNat : Int) = (y : Int) := by rw [UInt8.toNat_ofNat', Nat.mod_eq_of_lt (by omega)]
          have hcell : w6.cell? ⟨g, j, none⟩ = some (.int .u8 (x : Int)) := by
            rw [hcl j (UInt8.ofNat x) (by rw [← hx]; unfold rowX; rw [List.getElem?_map, List.getElem?_range (by omega)]; rw [hj]; rfl), UInt8.toNat_ofNat', Nat.mod_eq_of_lt (by omega)]
          have hfz : w6.frozen? ⟨g, j, none⟩ = false := Blk.frozen hB j
          have hgl := Blk.lt hB
          have hiI : (i : Int) / 8 = (j : Int) := by omega
          have hkI : (i : Int) % 8 = (k : Int) := by omega
          have hwj : IntKind.i64.wrap (j : Int) = (j : Int) := IntWalk.i64_in _ (by omega)
          have hwk : IntKind.i64.wrap (k : Int) = (k : Int) := IntWalk.i64_in _ (by omega)
          have hjl : (j : Int) < ((i / 8 + 1 : Nat) : Int) := by omega
          obtain ⟨nn, hnn⟩ : ∃ nn, i / 8 + 1 = nn := ⟨_, rfl⟩
          rw [hnn] at hv hjl
          have hO := HX.out.O
          rw [hv] at hO
          have HS2 : Hid (RoI w (w6.setCell ⟨g, j, none⟩ (.int .u8 (y : Int))).drew (.slice (some ⟨g, 0, none⟩) nn cap) (row4B (L.take (i + 1)))) := Lib.hid (by
            have h := Owns8.set (b := UInt8.ofNat y) hO (j := j) (by rw [rowX_len]; omega)
            rw [hyv] at h
            rw [hj] at hset
            rw [hset] at h
            exact ⟨h.drew, (below_set HX.out.B hbg).drew⟩)
          have hjI : (j : Int) ≤ 20000 := by omega
          subst hv
          clear hlow hO hset hyv hx hk hj hy hcl hB hblk hbit hnn
          go_upto_region 11 with fail
          go_region
          all_goals go_wp2_with fail
          go_roundg m
          case measure => omega
          case rel => exact ⟨i + 1, by omega, by go_num, HS2⟩
        · have hr0 : ((q.r.toNat : Int) == 0) = false := by rw [beq_eq_false_iff_ne]; intro h; exact hblk (UInt8.toNat_inj.1 (by rw [show (0 : UInt8).toNat = 0 from rfl]; omega))
          have hbit : bit4 L i = 0 := by unfold bit4; rw [HQI.out]; simp only [if_neg hblk]
          have HX2 : Hid (RoI w w6 u5 (row4B (L.take (i + 1)))) := Lib.hid (by rw [← rowX_white (by rw [HN.out]; exact hin) hbit]; exact HX.out)
          clear hblk hbit hB hcl hlc hcs hv
          go_wp2_with fail
          go_roundg m
          case measure => omega
          case rel => exact ⟨i + 1, by omega, by go_num, HX2⟩
    · obtain rfl : i = n := by omega
      obtain rfl : gk = 0 := by omega
      have hinI : ¬ (i : Int) < (i : Int) := by omega
      have HF : Hid (RoI w wr u5 (encRow 4 L)) := Lib.hid (by
        have h := HI.out
        rw [List.take_of_length_le (show L.length ≤ i by rw [HN.out]; exact Nat.le_refl _)] at h
        unfold encRow
        rw [if_neg (by decide), if_pos rfl]
        exact h)
      go_wp2_with fail
      go_ret
      exact ⟨_, rfl, HF.out.O, HF.out.B⟩
end Go.Proofs.YthljhebbblhakaaGreatDoor
namespace Go.Proofs.YthljhebbblhakaaGreatDoor
open Go.RowKit
set_option linter.unusedVariables false
set_option linter.unusedSimpArgs false

def XT (w : World) (x p q : Nat) (h : HeadR) : Prop := Blk w x 115 #[.pointer (some ⟨p, 0, none⟩), .int .i64 (h.K : Int), .int .i64 (h.W : Int), .int .i64 (h.H : Int), .int .i64 (h.M : Int), .int .i64 (h.At : Int), .pointer (some ⟨q, 0, none⟩)]
theorem SclA.blk {w : World} {s m : Nat} {av : List Nat} (h : SclA w s m av) : ∃ cs, Blk w s 139 cs := h.elim (fun k => ⟨_, k⟩) fun ⟨d, _, k⟩ => ⟨_, k.blk⟩
/-- what stands while text is read -/
structure TXI (w0 w : World) (p g x q : Nat) (s : ByteArray) (h : HeadR) (av : List Nat) (a : Nat) (y : Led) : Prop where
  S : SrcAt w p g s 0 s.size a
  G : LedAt w g y
  X : XT w x p q h
  Q : SclA w q h.M av
  T : Turn [p, g, q] w0 w
  av : ∀ i ∈ av, i < w.heap.size
  ok : y.Ok
section
variable {w0 w w' : World} {p g x q : Nat} {s : ByteArray} {h : HeadR} {av : List Nat} {a a' : Nat} {y y' : Led}
theorem TXI.nq (I : TXI w0 w p g x q s h av a y) : q ≠ p ∧ q ≠ g ∧ q ≠ x := by
  obtain ⟨cs, hb⟩ := I.Q.blk
  exact ⟨Blk.ne_ hb I.S (by decide), Blk.ne_ hb I.G (by decide), Blk.ne_ hb I.X (by decide)⟩
theorem TXI.read (I : TXI w0 w p g x q s h av a y) (k : Turn [p, g] w w') (S' : SrcAt w' p g s 0 s.size a') (G' : LedAt w' g y') (ok' : y'.Ok) : TXI w0 w' p g x q s h av a' y' := by
  have n := I.nq
  refine ⟨S', G', Blk.turn I.X k ?_, I.Q.turn k ?_ ?_, I.T.trans (k.mono (by simp)), fun i hi => Nat.lt_of_lt_of_le (I.av i hi) k.size, ok'⟩
  · simp only [List.mem_cons, List.not_mem_nil, or_false, not_or]; exact ⟨Blk.ne_ I.X I.S (by decide), Blk.ne_ I.X I.G (by decide)⟩
  · simp only [List.mem_cons, List.not_mem_nil, or_false, not_or]; exact ⟨n.1, n.2.1⟩
  · intro i hi
    simp only [List.mem_cons, List.not_mem_nil, or_false] at hi
    rcases hi with rfl | rfl
    · exact .inr ⟨_, _, I.S, by decide⟩
    · exact .inr ⟨_, _, I.G, by decide⟩
theorem TXI.scl (I : TXI w0 w p g x q s h av a y) (k : Turn [q] w w') (Q' : SclA w' q h.M av) : TXI w0 w' p g x q s h av a y := by
  have n := I.nq
  refine ⟨I.S.turn k ?_, I.G.turn k ?_, Blk.turn I.X k ?_, Q', I.T.trans (k.mono (by simp)), fun i hi => Nat.lt_of_lt_of_le (I.av i hi) k.size, I.ok⟩
  · simpa using n.1.symm
  · simpa using n.2.1.symm
  · simpa using n.2.2.symm
theorem TXI.below (I : TXI w0 w p g x q s h av a y) (k : Below w.heap.size w w') : TXI w0 w' p g x q s h av a y :=
  I.read (Turn.of_below k) (Blk.below I.S k (Blk.lt I.S)) (Blk.below I.G k (Blk.lt I.G)) I.ok
theorem TXI.alloc (I : TXI w0 w p g x q s h av a y) (o : Obj) : TXI w0 (w.alloc o) p g x q s h av a y := I.below ((Below.refl _ _).alloc (Nat.le_refl _) o)
theorem TXI.drew (I : TXI w0 w p g x q s h av a y) : TXI w0 w.drew p g x q s h av a y := ⟨I.S, I.G, I.X, I.Q.drew, I.T.drew, I.av, I.ok⟩
/-- a store into a block of another type that is new -/
theorem TXI.own (I : TXI w0 w p g x q s h av a y) {t : TypeId} {cs : Array Value} {b : Nat} (hb : Blk w b t cs) (hn : w0.heap.size ≤ b) (k : Turn [b] w w') (h1 : t ≠ 96) (h2 : t ≠ 94) (h3 : t ≠ 115) (h4 : t ≠ 139) (h5 : t ≠ 5) : TXI w0 w' p g x q s h av a y := by
  obtain ⟨cq, hq⟩ := I.Q.blk
  refine ⟨I.S.turn k (by simpa using Blk.ne_ I.S hb h1.symm), I.G.turn k (by simpa using Blk.ne_ I.G hb h2.symm), Blk.turn I.X k (by simpa using Blk.ne_ I.X hb h3.symm), I.Q.turn k (by simpa using Blk.ne_ hq hb h4.symm) ?_, I.T.next k (fun i hi => .inr (by simp only [List.mem_cons, List.not_mem_nil, or_false] at hi; omega)), fun i hi => Nat.lt_of_lt_of_le (I.av i hi) k.size, I.ok⟩
  intro i hi
  simp only [List.mem_cons, List.not_mem_nil, or_false] at hi
  subst hi
  exact .inr ⟨_, _, hb, h5⟩
theorem TXI.from_ (I : TXI w0 w p g x q s h av a y) : TXI w w p g x q s h av a y := ⟨I.S, I.G, I.X, I.Q, Turn.refl _ _, I.av, I.ok⟩
theorem TXI.src_ok (I : TXI w0 w p g x q s h av a y) (ha : a ≤ s.size) (hsm : s.size ≤ 1099511627776) : SrcOk s 0 s.size a := ⟨Nat.zero_le _, ha, Nat.le_refl _, hsm⟩
end
theorem smp8_is {V M : Nat} (h1 : 1 ≤ M) (h : V ≤ M) : sround (V : Int) (M : Int) = ((smp8 V M).toNat : Int) := by
  obtain ⟨a, b⟩ := sround_range (v := (V : Int)) (m := (M : Int)) (by omega) (by omega) (by omega)
  unfold smp8
  rw [ofNat8 (by omega)]
  omega
def smpNo (kk aa : Nat) : Value := .tuple #[.int .u8 0, ftV kk aa]
def smpYes (r : UInt8 × Nat) : Value := .tuple #[.int .u8 (r.1.toNat : Int), ft0]
theorem SclA.st3 {w : World} {s m b : Nat} {av : List Nat} {k f i : Int} {u v x : Value} (h : SclA w s m av) (hb : FB w b k f i) (hn : s ≠ b) : SclA (st3 w b u v x) s m av :=
  h.turn (S := [b]) (Turn.st3 (Turn.refl _ _) (.inl (by simp))) (by simpa using hn) (fun i hi => by simp only [List.mem_cons, List.not_mem_nil, or_false] at hi; subst hi; exact .inr ⟨_, _, hb, by decide⟩)
/-- what a reading of a pixel leaves -/
def PixPost (w w' : World) (p g x q : Nat) (s : ByteArray) (h : HeadR) (av : List Nat) (y : Led) (e : Ending) (D : Nat → (Qc × Nat → Dec) → Dec) : Prop :=
  ∃ y', y'.bytes = y.bytes ∧
    ((∃ (kk aa : Nat) (c0 c1 c2 c3 : Int), kk ≠ 0 ∧ y'.Ok ∧ e = .returned (.tuple #[.agg #[.int .u8 c0, .int .u8 c1, .int .u8 c2, .int .u8 c3], .agg #[.int .i64 (kk : Int), .int .i64 3, .int .i64 (aa : Int)]]) ∧ (LedAt w' g y' ∧ SclA w' q h.M av ∧ Turn [p, g, q] w w') ∧ ∀ (z : Nat) k, (D z k).run y = ((y'.give (z : Int)).1, .bad kk aa)) ∨
     (∃ (c : Qc) (a' : Nat), e = .returned (.tuple #[c.v, .agg #[.int .i64 0, .int .i64 0, .int .i64 0]]) ∧ a' ≤ s.size ∧ TXI w w' p g x q s h av a' y' ∧ y'.reason = 0 ∧ ∀ (z : Nat) k, (D z k).run y = (k (c, a')).run y'))
theorem Blk.st4 {w : World} {g b : Nat} {t : TypeId} {cs : Array Value} {a0 a1 a2 a3 : Int} (h : Blk w g t cs) (hb : g ≠ b) : Blk (st4 w b a0 a1 a2 a3) g t cs := Blk.far (Blk.far (Blk.far (Blk.far h (p := ⟨b, 0, none⟩) hb _) (p := ⟨b, 1, none⟩) hb _) (p := ⟨b, 2, none⟩) hb _) (p := ⟨b, 3, none⟩) hb _
theorem Turn.st4 {w a : World} {S : List Nat} {b : Nat} {a0 a1 a2 a3 : Int} (h : Turn S a w) (hb : b ∈ S ∨ a.heap.size ≤ b) : Turn S a (st4 w b a0 a1 a2 a3) := (((h.set_ 0 _ hb).set_ 1 _ hb).set_ 2 _ hb).set_ 3 _ hb
theorem SclA.st4 {w : World} {s m b : Nat} {av : List Nat} {a0 a1 a2 a3 b0 b1 b2 b3 : Int} (h : SclA w s m av) (hb : CB w b a0 a1 a2 a3) (hn : s ≠ b) : SclA (st4 w b b0 b1 b2 b3) s m av :=
  h.turn (S := [b]) (Turn.st4 (Turn.refl _ _) (.inl (by simp))) (by simpa using hn) (fun i hi => by simp only [List.mem_cons, List.not_mem_nil, or_false] at hi; subst hi; exact .inr ⟨_, _, hb, by decide⟩)
theorem FB.st4 {w : World} {b c : Nat} {k f i a0 a1 a2 a3 : Int} (h : FB w b k f i) (hn : b ≠ c) : FB (st4 w c a0 a1 a2 a3) b k f i := Blk.st4 h hn
theorem TXI.to_ {w0 w1 w : World} {p g x q : Nat} {s : ByteArray} {h : HeadR} {av : List Nat} {a : Nat} {y : Led} (I : TXI w1 w p g x q s h av a y) (k : Turn [p, g, q] w0 w1) : TXI w0 w p g x q s h av a y := ⟨I.S, I.G, I.X, I.Q, k.trans I.T, I.av, I.ok⟩
def col3 (l : List UInt8) : Qc := ⟨l.getD 0 0, l.getD 1 0, l.getD 2 0, 255⟩
theorem pwp_gen {P : Program} {c : Code} {Q : Exit → Act → World → Prop} {a : Act} {w : World} {S : World → Prop} (h : S w) (k : ∀ wx, S wx → c.wp P Q a wx) : c.wp P Q a w := k w h
theorem CB.set_ {w : World} {b i : Nat} {a0 a1 a2 a3 b0 b1 b2 b3 v : Int} (h : CB w b a0 a1 a2 a3) (e : (colC a0 a1 a2 a3).setIfInBounds i (.int .u8 v) = colC b0 b1 b2 b3) : CB (w.setCell ⟨b, i, none⟩ (.int .u8 v)) b b0 b1 b2 b3 := (Blk.set_ h i _).eq_ e
end Go.Proofs.YthljhebbblhakaaGreatDoor
namespace Go.Proofs.YthljhebbblhakaaGreatDoor
open Go.RowKit
set_option linter.unusedVariables false
set_option linter.unusedSimpArgs false

section
variable {w0 w w' : World} {po K W H M n : Nat} {v : Value} {L : List Qc} {pd : Nat} {G : Array Value}
end
end Go.Proofs.YthljhebbblhakaaGreatDoor
namespace Go.Proofs.YthljhebbblhakaaGreatDoor
open Go.RowKit
set_option linter.unusedVariables false
set_option linter.unusedSimpArgs false

theorem Blk.grownO3 {w w' : World} {g base : Nat} {t e : TypeId} {cs : Array Value} {v : Value} {l : List Value} (h : Blk w g t cs) (o : Owns1 w base e v l) (hne : t ≠ e) (hg : w.grownBy w' v.ownBlock) : Blk w' g t cs := by
  refine h.grown hg fun he => ?_
  rcases o.2 with ⟨rfl, _⟩ | ⟨r, cap, cur, rfl, _, hr, _⟩
  · cases he
  · simp only [Value.ownBlock, Option.some.injEq] at he
    subst he
    exact Blk.ne_ h hr hne rfl
theorem own_apart {w : World} {base base' q q' n n' : Nat} {e e' : TypeId} {u u' : Value} {l l' : List Value} (h : w.ownsRow base e q u n l) (k : w.ownsRow base' e' q' u' n' l') (he : e ≠ e') : u.ownBlock = none ∨ u.ownBlock ≠ u'.ownBlock := by
  rcases h.2 with ⟨rfl, _⟩ | ⟨g, cap, cur, rfl, _, hg, _⟩
  · exact .inl rfl
  · refine .inr fun hb => ?_
    rcases k.2 with ⟨rfl, _⟩ | ⟨g', cap', cur', rfl, _, hg', _⟩
    · cases hb
    · simp only [Value.ownBlock, Option.some.injEq] at hb
      subst hb
      rw [hg] at hg'
      injection hg' with h1
      injection h1 with _ h2 _
      exact he h2
def dV (l : List UInt8) : List Value := l.map fun b => .int .i64 (b.toNat : Int)
theorem dV_snoc (l : List UInt8) (b : UInt8) : dV (l ++ [b]) = dV l ++ [.int .i64 (b.toNat : Int)] := by simp [dV]
section
variable {w0 w w' : World} {po K W H M n : Nat} {v u : Value} {L : List Qc} {l : List UInt8}
end
end Go.Proofs.YthljhebbblhakaaGreatDoor
namespace Go.Proofs.YthljhebbblhakaaGreatDoor
open Go.RowKit
set_option linter.unusedVariables false
set_option linter.unusedSimpArgs false

end Go.Proofs.YthljhebbblhakaaGreatDoor
