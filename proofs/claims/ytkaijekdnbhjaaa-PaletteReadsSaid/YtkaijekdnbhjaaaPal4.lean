/- Rows of colours; the document's Read. -/
import Derived.Test.YtkaijekdnbhjaaaPal3
import Derived.Test.YtkaijekdnbhjaaaTga4
import Derived.Deep.OwnRows
namespace Go.Proofs.Ytkaijekdnbhjaaa
open Go.RowKit
set_option linter.unusedVariables false
set_option linter.unusedSimpArgs false

def Qc.cells (q : Qc) : List Value := [.int .u8 (q.r.toNat : Int), .int .u8 (q.g.toNat : Int), .int .u8 (q.b.toNat : Int), .int .u8 (q.a.toNat : Int)]
def cq (L : List Qc) : List Value := (L.map Qc.cells).flatten
theorem cq_len (L : List Qc) : (cq L).length = L.length * 4 := by
  induction L with
  | nil => rfl
  | cons q L ih =>
    simp only [cq, List.map_cons, List.flatten_cons, List.length_append, List.length_cons] at ih ⊢
    rw [ih]
    simp [Qc.cells]
    omega
theorem cq_append (L M : List Qc) : cq (L ++ M) = cq L ++ cq M := by simp [cq]
theorem cq_one (q : Qc) : cq [q] = q.cells := by simp [cq]
theorem cq_at (L : List Qc) (i j : Nat) (q : Qc) (h : L[i]? = some q) (hj : j < 4) : (cq L)[i * 4 + j]? = q.cells[j]? := by
  induction L generalizing i with
  | nil => simp at h
  | cons x L ih =>
    have e : cq (x :: L) = x.cells ++ cq L := by simp [cq]
    have hx4 : x.cells.length = 4 := rfl
    cases i with
    | zero =>
      have hx : x = q := by simpa using h
      subst hx
      rw [e, Nat.zero_mul, Nat.zero_add, List.getElem?_append_left (by omega)]
    | succ i =>
      rw [e, List.getElem?_append_right (by omega), hx4, show (i + 1) * 4 + j - 4 = i * 4 + j by omega]
      exact ih i (by simpa using h)
theorem cq_one_cell {L : List Qc} {u : Value} (h : u ∈ cq L) : u.oneCell' = true := by
  simp only [cq, List.mem_flatten, List.mem_map] at h
  obtain ⟨l, ⟨q, _, rfl⟩, hu⟩ := h
  simp only [Qc.cells, List.mem_cons, List.not_mem_nil, or_false] at hu
  rcases hu with rfl | rfl | rfl | rfl <;> rfl
def OwnsQ (w : World) (base : Nat) (v : Value) (L : List Qc) : Prop := w.ownsRow base 34 4 v L.length (cq L)
/-- four cells a colour, from an address on -/
def QAt (w : World) (b off : Nat) (L : List Qc) : Prop := ∀ i q, L[i]? = some q → w.cell? ⟨b, off + i * 4, none⟩ = some (.int .u8 (q.r.toNat : Int)) ∧ w.cell? ⟨b, off + i * 4 + 1, none⟩ = some (.int .u8 (q.g.toNat : Int)) ∧ w.cell? ⟨b, off + i * 4 + 2, none⟩ = some (.int .u8 (q.b.toNat : Int)) ∧ w.cell? ⟨b, off + i * 4 + 3, none⟩ = some (.int .u8 (q.a.toNat : Int))
section
variable {w w' : World} {base : Nat} {v : Value} {L : List Qc}
theorem OwnsQ.alloc (h : OwnsQ w base v L) (o : Obj) : OwnsQ (w.alloc o) base v L := World.ownsRow.alloc h o
theorem OwnsQ.kept {row : Option Nat} (h : OwnsQ w base v L) (hg : w.grownBy w' row) (hne : v.ownBlock = none ∨ v.ownBlock ≠ row) : OwnsQ w' base v L := World.ownsRow.kept h hg hne
theorem OwnsQ.below (h : OwnsQ w base v L) (hb : Below w.heap.size w w') : OwnsQ w' base v L :=
  h.kept (row := none) ⟨hb.os, hb.tape, hb.output, hb.size, fun i hi _ => hb.block i hi⟩ (by cases v.ownBlock <;> simp)
theorem OwnsQ.turn {S : List Nat} (o : OwnsQ w base v L) (k : Turn S w w') (hS : ∀ i ∈ S, ∃ t cs, Blk w i t cs ∧ t ≠ 34) : OwnsQ w' base v L := by
  refine ⟨o.1, ?_⟩
  rcases o.2 with h | ⟨r, cap, cur, hv, hb, hr, h4, h5, h6, h7⟩
  · exact .inl h
  · refine .inr ⟨r, cap, cur, hv, hb, ?_, h4, h5, h6, h7⟩
    exact Blk.turn hr k (fun hm => by obtain ⟨t, cs, hbk, hn⟩ := hS r hm; exact Blk.ne_ hbk hr hn rfl)
theorem OwnsQ.form (h : OwnsQ w base v L) : (v = .slice none 0 0 ∧ L = []) ∨ ∃ g cap, v = .slice (some ⟨g, 0, none⟩) L.length cap ∧ base ≤ g ∧ g < w.heap.size ∧ L.length ≤ cap ∧ QAt w g 0 L := by
  rcases h.2 with ⟨rfl, hn⟩ | ⟨g, cap, cur, rfl, hb, hg, hc, hm, hs, ht⟩
  · exact .inl ⟨rfl, List.eq_nil_of_length_eq_zero hn⟩
  · refine .inr ⟨g, cap, rfl, hb, (World.ownsRow.lt h g rfl).2, hc, fun i q hi => ?_⟩
    have hil := (List.getElem?_eq_some_iff.1 hi).1
    have key : ∀ j, j < 4 → w.cell? ⟨g, i * 4 + j, none⟩ = q.cells[j]? := fun j hj => by
      rw [cell_of_row w g (i * 4 + j) cur _ (0, 0) hg, ← Array.getElem?_toList, ← cq_at L i j q hi hj, ← ht, List.getElem?_take_of_lt (by omega)]
    rw [Nat.zero_add]
    exact ⟨key 0 (by omega), key 1 (by omega), key 2 (by omega), key 3 (by omega)⟩
end
theorem infoQ : (Try.prog.info? 34).map (fun i => (i.zero, i.size, i.bytes)) = some (some (.agg #[.int .u8 0, .int .u8 0, .int .u8 0, .int .u8 0]), 4, 4) := by kernel_rfl
/-- append of colours that lie in memory -/
theorem wpList_append_cols {ops : Array Oper} {rest : List Oper} {o : Oper} {a : Act} {Q : Exit → Act → World → Prop} {w : World} (hgd : o.guard = none) (s x : Operand)
    (ho : o.op = .call { callee := .builtin .append, args := #[s, x], argTypes := #[22, 22] })
    (base : Nat) (v : Value) (L : List Qc) (hs : a.eval s = v) (hown : OwnsQ w base v L)
    (g n c : Nat) (M : List Qc) (hn : n = M.length) (hx : a.eval x = .slice (some ⟨g, 0, none⟩) n c) (hM : QAt w g 0 M)
    (hlen : L.length + M.length < 1099511627776) (hbase : base ≤ w.heap.size)
    (h : ∀ v' w', OwnsQ w' base v' (L ++ M) → Below base w w' → w.grownBy w' v.ownBlock → wpList Try.prog ops Q rest (a.put o.dst v') w') : wpList Try.prog ops Q (o :: rest) a w := by
  obtain ⟨i0, hi, hz0, hzs, hzb⟩ := info_parts infoQ
  subst hn
  refine wpList_append_own (P := Try.prog) w hgd s x 22 ho base 34 i0 _ 4 4 Try.underlying22 hi hz0 hzs hzb rfl (by decide) v L.length (cq L) hs hown ⟨g, 0, none⟩ M.length c (cq M) hx (cq_len M) ?_ (fun u hu => cq_one_cell hu) (by unfold maxLen; omega) (by omega) hbase ?_
  · intro j u hj
    have hjl : j < (cq M).length := (List.getElem?_eq_some_iff.1 hj).1
    rw [cq_len] at hjl
    obtain ⟨qq, hq⟩ : ∃ qq, M[j / 4]? = some qq := ⟨_, List.getElem?_eq_getElem (show j / 4 < M.length by omega)⟩
    have e := hM (j / 4) _ hq
    have ej : j / 4 * 4 + j % 4 = j := by omega
    have hc := cq_at M (j / 4) (j % 4) _ hq (by omega)
    rw [ej, hj] at hc
    rw [show (⟨g, 0, none⟩ : Addr).add j = ⟨g, j, none⟩ by unfold Addr.add; split <;> simp_all]
    rw [Nat.zero_add] at e
    have h4 : j % 4 < 4 := by omega
    generalize j % 4 = r at h4 ej hc
    rw [hc, ← ej]
    match r, h4 with
    | 0, _ => exact e.1
    | 1, _ => exact e.2.1
    | 2, _ => exact e.2.2.1
    | 3, _ => exact e.2.2.2
  · intro v' w' h1 h2 _
    refine h v' w' ?_ ((Below.refl _ _).grown h2 hbase fun k hk => (World.ownsRow.lt hown k hk).1) h2
    show World.ownsRow _ _ _ _ _ _ _
    rw [List.length_append, cq_append]
    exact h1
theorem q_new (w : World) (q : Qc) : QAt (w.alloc (.cells #[.int .u8 (q.r.toNat : Int), .int .u8 (q.g.toNat : Int), .int .u8 (q.b.toNat : Int), .int .u8 (q.a.toNat : Int)] 34)) w.heap.size 0 [q] := by
  intro i q' hi
  cases i with
  | zero =>
    have : q = q' := by simpa using hi
    subst this
    exact ⟨cell_new _ _ _ 0 _ rfl, cell_new _ _ _ 1 _ rfl, cell_new _ _ _ 2 _ rfl, cell_new _ _ _ 3 _ rfl⟩
  | succ i => simp at hi
/-- the document's Read -/
theorem ref_stop {z n : Nat} {s : ByteArray} {c c' : Nat} (h1 : c * z ≤ s.size) (h2 : c ≤ n) (h3 : c = n ∨ s.size < (c + 1) * z) (k1 : c' * z ≤ s.size) (k2 : c' ≤ n) (k3 : c' = n ∨ s.size < (c' + 1) * z) : c = c' := by
  rcases Nat.lt_trichotomy c c' with h | h | h
  · rcases h3 with h3 | h3
    · omega
    · have := Nat.mul_le_mul (show c + 1 ≤ c' by omega) (Nat.le_refl z)
      omega
  · exact h
  · rcases k3 with k3 | k3
    · omega
    · have := Nat.mul_le_mul (show c' + 1 ≤ c by omega) (Nat.le_refl z)
      omega
set_option maxRecDepth 100000 in
set_option maxHeartbeats 2000000 in
theorem refRead10 {w : World} {s : ByteArray} {n z : Nat} {k : Int} (hk : psize k = (z : Int)) (hz : 1 ≤ z) (hs : s.size ≤ 100000) (hn : n ≤ 100000) :
    Calls Try.prog 17 #[.string s, .int .i64 (n : Int), .int .i64 k] w fun e w' => ∃ c g cap, e = .returned (.slice (some ⟨g, 0, none⟩) c cap) ∧ OwnsQ w' w.heap.size (.slice (some ⟨g, 0, none⟩) c cap) (ents k z s c) ∧ c * z ≤ s.size ∧ c ≤ n ∧ (c = n ∨ s.size < (c + 1) * z) ∧ Below w.heap.size w w' := by
  have hz4 : z ≤ 4 := by have := (psize_four (k := k)).2; omega
  have HS0 := fun w => refSize_any k w
  rw [hk] at HS0
  have HS := Lib.hid HS0
  have HK : Hid (psize k = (z : Int)) := Lib.hid hk
  have HO : Hid (OwnsQ (w.alloc (.cells #[] 34)) w.heap.size (.slice (some ⟨w.heap.size, 0, none⟩) 0 0) []) := Lib.hid (World.ownsRow_made w #[] 0 (Nat.le_refl _) (Nat.zero_le _) rfl)
  have HB0 : Hid (Below w.heap.size w (w.alloc (.cells #[] 34))) := Lib.hid ((Below.refl _ _).alloc (Nat.le_refl _) _)
  clear hk HS0
  go_enter Try.func17, Try.ntmps17
  go_wp2_with (go_at_call 16; refine (HS.out _).mono ?_; rintro e w9 ⟨rfl, rfl⟩)
  go_loopg [7, 9] n (fun gh v x wr => ∃ (j g cap : Nat), x = .int .i64 (j : Int) ∧ v = .slice (some ⟨g, 0, none⟩) j cap ∧ Hid (n = j + gh) ∧ j ≤ n ∧ Hid (OwnsQ wr w.heap.size (.slice (some ⟨g, 0, none⟩) j cap) (ents k z s j) ∧ j * z ≤ s.size ∧ Below w.heap.size w wr))
  case atStart => exact ⟨0, w.heap.size, 0, rfl, rfl, Lib.hid (by omega), by omega, Lib.hid ⟨HO.out, by omega, HB0.out⟩⟩
  case round =>
    obtain ⟨j, g, cap, rfl, rfl, hg, hj, hH⟩ := hrel
    by_cases hlt : j < n
    · have j0 : (j : Int) < (n : Int) := by omega
      obtain ⟨p, hp⟩ : ∃ p, j * z = p := ⟨_, rfl⟩
      have hps : p ≤ s.size := by rw [← hp]; exact hH.out.2.1
      have HWP := prod_in hp (by omega)
      have HPP := Lib.hid hp
      clear hp
      by_cases hsh : s.size < p + z
      · have t1 : (s.size : Int) - (p : Int) < (z : Int) := by omega
        go_wp2_with fail
        go_ret
        exact ⟨j, g, cap, rfl, hH.out.1, hH.out.2.1, hj, .inr (by rw [Nat.add_mul, Nat.one_mul, HPP.out]; exact hsh), hH.out.2.2⟩
      · have t1 : (z : Int) ≤ (s.size : Int) - (p : Int) := by omega
        have t2 : (p : Int) ≤ (s.size : Int) := by omega
        obtain ⟨x, hx⟩ : ∃ x, x = s.extract p s.size := ⟨_, rfl⟩
        have hxz : x.size = s.size - p := by rw [hx]; simp
        have hxl : x.data.toList = s.data.toList.drop p := by
          rw [hx, extract_list', List.take_of_length_le]
          rw [List.length_drop, list_len]
          omega
        obtain ⟨qc, hqc⟩ : ∃ qc, qc = ecol k (s.data.toList.drop p) := ⟨_, rfl⟩
        have HE0 := fun w => refEntry_any x k w (by rw [HK.out]; omega) (by rw [HK.out, hxz]; omega) (by omega)
        rw [hxl, ← hqc] at HE0
        simp only [Qc.v] at HE0
        rw [hx] at HE0
        have HE := Lib.hid HE0
        have HX : Hid (ents k z s (j + 1) = ents k z s j ++ [qc]) := Lib.hid (by rw [ents_succ, hqc, HPP.out])
        have own3 := hH.out.1
        have hb3 := hH.out.2.2
        have hll : (ents k z s j).length + [qc].length < 1099511627776 := by rw [ents_len]; simp; omega
        clear hx hxz hxl hqc HE0
        go_wp2_with (first
          | (go_at_call 51; refine (HE.out _).mono ?_; rintro e w4 ⟨rfl, b4⟩; have own4 := (own3.below b4).alloc (.cells #[.int .u8 (qc.r.toNat : Int), .int .u8 (qc.g.toNat : Int), .int .u8 (qc.b.toNat : Int), .int .u8 (qc.a.toNat : Int)] 34); have hb4 := below_next hb3 b4; have z4 := hb4.size; have hb4' := hb4.alloc z4 (.cells #[.int .u8 (qc.r.toNat : Int), .int .u8 (qc.g.toNat : Int), .int .u8 (qc.b.toNat : Int), .int .u8 (qc.a.toNat : Int)] 34))
          | (at_builtin; refine wpList_append_cols rfl (.tmp 28) (.tmp 36) rfl w.heap.size _ _ rfl own4 w4.heap.size 1 1 [qc] rfl rfl ?_ hll ?_ ?_; (exact q_new w4 qc); (simp; omega); intro v5 w5 own5 hb5 _; have hb5' := hb4'.trans hb5))
        obtain ⟨g5, cap5, hv5⟩ : ∃ g5 cap5, v5 = .slice (some ⟨g5, 0, none⟩) (j + 1) cap5 := by
          rcases own5.form with ⟨_, h⟩ | ⟨g5, cap5, h, _⟩
          · simp at h
          · exact ⟨g5, cap5, by rw [h, List.length_append, ents_len]; rfl⟩
        subst hv5
        go_roundg (n - (j + 1))
        case measure => have := hg.out; omega
        case rel => exact ⟨j + 1, g5, cap5, by go_num, rfl, Lib.hid (by have := hg.out; omega), by omega, Lib.hid ⟨by rw [HX.out]; exact own5, by rw [Nat.add_mul, Nat.one_mul, HPP.out]; omega, hb5'⟩⟩
    · obtain rfl : j = n := by omega
      have j0 : decide ((j : Int) < (j : Int)) = false := decide_eq_false (by omega)
      go_wp2_with fail
      go_ret
      exact ⟨j, g, cap, rfl, hH.out.1, hH.out.2.1, Nat.le_refl _, .inl rfl, hH.out.2.2⟩
end Go.Proofs.Ytkaijekdnbhjaaa
