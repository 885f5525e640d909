/- The laws' reading in plain words. Plain: a PNM file that is written tells its image. Writing PNM: what can be written; a number's digits. Writing PNM: the program's and the document's may. -/
import Derived.Test.YthljhebbblhakaaGreatDoorEPnmHd
import Derived.Test.YthljhebbblhakaaGreatDoorEPnmBst
import Derived.Test.YthljhebbblhakaaGreatDoorEFfRef3
import Derived.Test.YthljhebbblhakaaGreatDoorEFfM
import Derived.Test.YthljhebbblhakaaGreatDoorEPnmEnd
import Derived.Test.YthljhebbblhakaaGreatDoorPnmShelf
import Derived.Lib.SmallJoins
import Derived.Lib.AppendIntMem
namespace Go.Proofs.YthljhebbblhakaaGreatDoor
open Go.RowKit
set_option linter.unusedVariables false
set_option linter.unusedSimpArgs false

def x0V (kk fm aa : Nat) (g : Nat) (b : Bool) : Value := .tuple #[.agg #[.int .i64 0, .int .i64 0, .slice none 0 0], .agg #[.int .i64 (kk : Int), .int .i64 (fm : Int), .int .i64 (aa : Int)], .pointer (some ⟨g, 0, none⟩), .bool b]
/-- what the law's reading leaves -/
def LawPost (s : ByteArray) (x0 : Led) (w w' : World) (e : Ending) : Prop :=
  ∃ (g : Nat) (y : Led) (z : Nat), LedAt w' g y ∧ y.Ok ∧ Below w.heap.size w w' ∧
    ((∃ kk fm aa aa' : Nat, (kk = 4 ∧ fm = 3 ∨ kk = 0 ∧ fm = 0) ∧ aa ≤ s.size ∧ e = .returned (x0V kk fm aa g false) ∧ (pnmDec s).run x0 = ((y.give (z : Int)).1, .bad 4 aa')) ∨
     (∃ kk aa : Nat, kk ≠ 0 ∧ e = .returned (x0V kk 3 aa g true) ∧ (pnmDec s).run x0 = ((y.give (z : Int)).1, .bad kk aa)) ∨
     (∃ (W H : Nat) (l : List UInt8) (d : Nat), (pnmDec s).run x0 = (y, .img W H l) ∧ e = .returned (.tuple #[.agg #[.int .i64 (W : Int), .int .i64 (H : Int), .slice (some ⟨d, 0, none⟩) l.length l.length], .agg #[.int .i64 0, .int .i64 0, .int .i64 0], .pointer (some ⟨g, 0, none⟩), .bool true]) ∧ BytesAt w' (some ⟨d, 0, none⟩) l.length l))
/-- a head that is right is refused by the budget alone -/
theorem head_spent {s : ByteArray} {h : HeadR} {x0 y : Led} {kk aa : Nat} (hh : HeadOk s h) (hr0 : x0.reason = 0) (hb0 : x0.bytes = 0) (run : ∀ (z : Nat) k, (headD s z k).run x0 = ((y.give (z : Int)).1, .bad kk aa)) : kk = 4 ∧ aa ≤ s.size := by
  have hb : (headD s 0 fun _ => Dec.fin (.bad 7 0)).bal s.size 0 := headD_all (DP.bal s 0) fun h _ _ _ _ _ _ _ => ⟨rfl, by decide, Nat.zero_le _⟩
  have ht : (headD s 0 fun _ => Dec.fin (.bad 7 0)).told = .bad 7 0 := by rw [headD_told, hh.is, if_neg (by rw [hh.kind]; simp)]; rfl
  rcases Dec.run_cases s.size _ 0 x0 hb hr0 hb0 with ⟨a, h1, h2, _⟩ | ⟨h1, _⟩
  · rw [run] at h2
    injection h2 with h3 h4
    exact ⟨h3, by omega⟩
  · have hb2 : (headD s 0 fun _ => Dec.fin (.bad 8 0)).bal s.size 0 := headD_all (DP.bal s 0) fun h _ _ _ _ _ _ _ => ⟨rfl, by decide, Nat.zero_le _⟩
    have ht2 : (headD s 0 fun _ => Dec.fin (.bad 8 0)).told = .bad 8 0 := by rw [headD_told, hh.is, if_neg (by rw [hh.kind]; simp)]; rfl
    rw [run, ht] at h1
    rcases Dec.run_cases s.size _ 0 x0 hb2 hr0 hb0 with ⟨a, g1, g2, _⟩ | ⟨g1, _⟩
    · rw [run] at g2
      injection g2 with h3 h4
      injection h1 with h5
      omega
    · rw [run, ht2] at g1
      injection h1 with h5
      injection g1 with h6
      omega
theorem give_zero (y : Led) : (y.give 0).1 = y := by
  unfold Led.give
  split
  · rfl
  · simp
theorem headOk_of {s : ByteArray} (hk : (headAt (nats s)).Kind = 0) : HeadOk s (headAt (nats s)) := by
  have h := headD_all (s := s) (z := 0) (P := fun d => d.told = .bad 4 0 → HeadOk s (headAt (nats s))) ⟨fun _ _ _ h e => h e, fun kd pl h1 _ e => absurd (DRes.bad_inj e).1 h1⟩ (k := fun _ => .fin (.bad 4 0)) (fun h h0 hK hW hH hM ha e _ => by rw [e]; exact ⟨e, h0, hK, hW, hH, hM, ha⟩)
  exact h (by rw [headD_told, if_neg (by rw [hk]; simp)]; rfl)
def imgRet (W H : Nat) (d n g : Nat) : Value := .tuple #[.agg #[.int .i64 (W : Int), .int .i64 (H : Int), .slice (some ⟨d, 0, none⟩) n n], .agg #[.int .i64 0, .int .i64 0, .int .i64 0], .pointer (some ⟨g, 0, none⟩), .bool true]
/-- told: a fault that is the file's, or the image -/
def LawTold (s : ByteArray) (w' : World) (g : Nat) (e : Ending) : Prop :=
  (∃ kk aa : Nat, kk ≠ 0 ∧ kk ≠ 4 ∧ (pnmDec s).told = .bad kk aa ∧ e = .returned (x0V kk 3 aa g true)) ∨
  (∃ (W H : Nat) (l : List UInt8) (d : Nat), (pnmDec s).told = .img W H l ∧ e = .returned (imgRet W H d l.length g) ∧ BytesAt w' (some ⟨d, 0, none⟩) l.length l)
theorem pnmDec_cost {s : ByteArray} {h : HeadR} (hh : HeadOk s h) : (pnmDec s).cost ≤ s.size + h.W * h.H * 7 + 9 := by
  refine headD_pot (by omega) fun K W H M n e hn => ?_
  obtain rfl : h = ⟨K, W, H, M, n, 0, 0⟩ := hh.is.symm.trans e
  exact bodyD_cost s ⟨K, W, H, M, n, 0, 0⟩ _ hn
theorem pnmDec_may {s : ByteArray} {h : HeadR} (hh : HeadOk s h) (hW : h.W ≤ 100) (hH : h.H ≤ 100) : (pnmDec s).may 40000 100 100 := by
  refine headD_all (DP.may s 0 40000 100 100) fun h' h0 hK hW' hH' hM ha e => ?_
  obtain rfl : h = h' := hh.is.symm.trans e
  have hm : h.W * h.H ≤ 100 * 100 := Nat.mul_le_mul hW hH
  exact ⟨⟨by omega, by omega⟩, ⟨by omega, by omega⟩, by omega, bodyD_all (DP.may s _ 40000 100 100) ha fun _ _ => trivial⟩
theorem lawFull {s : ByteArray} {h : HeadR} {wk : Int} {w w' : World} {e : Ending} (hh : HeadOk s h) (hW : h.W ≤ 100) (hH : h.H ≤ 100) (hc : ((s.size + h.W * h.H * 7 + 9 : Nat) : Int) ≤ wk) (p : LawPost s (Led.new 100 100 40000 wk) w w' e) : ∃ g, Below w.heap.size w w' ∧ LawTold s w' g e := by
  obtain ⟨g, y, z, l, ok, b, hor⟩ := p
  have hk := pnmDec_cost hh
  have hen := Dec.run_enough (pnmDec s) (Led.new 100 100 40000 wk) s.size 0 rfl (pnmDec_bal s) rfl (pnmDec_may hh hW hH) (by
    show (0 : Int) + ((pnmDec s).cost : Int) ≤ nought wk
    unfold nought
    split <;> omega)
  refine ⟨g, b, ?_⟩
  rcases hor with ⟨kk, fm, aa, aa', hkf, haa, he, run⟩ | ⟨kk, aa, hk, he, run⟩ | ⟨W, H, li, d, run, he, hb⟩
  · rw [run] at hen
    exact absurd rfl (told_ne _ 0 (pnmDec_bal s) hen.1.symm).1
  · rw [run] at hen
    exact .inl ⟨kk, aa, hk, (told_ne _ 0 (pnmDec_bal s) hen.1.symm).1, hen.1.symm, he⟩
  · rw [run] at hen
    exact .inr ⟨W, H, li, d, hen.1.symm, he, hb⟩
deriving instance DecidableEq for HeadR
end Go.Proofs.YthljhebbblhakaaGreatDoor
namespace Go.Proofs.YthljhebbblhakaaGreatDoor
set_option linter.unusedVariables false
set_option linter.unusedSimpArgs false

/-- a colour of an image's bytes -/
def pcAt (l : List UInt8) (i : Nat) : Qc := ⟨l.getD (4 * i) 0, l.getD (4 * i + 1) 0, l.getD (4 * i + 2) 0, l.getD (4 * i + 3) 0⟩
theorem flat_pcAt {l : List UInt8} : ∀ (N : Nat), 4 * N ≤ l.length → flat ((List.range N).map (pcAt l)) = l.take (4 * N)
  | 0, _ => by simp [flat]
  | N + 1, h => by
    rw [List.range_succ, List.map_append, flat_append, flat_pcAt N (by omega)]
    have e : flat ([N].map (pcAt l)) = (l.drop (4 * N)).take 4 := by
      have d0 : l.drop (4 * N) = l.getD (4 * N) 0 :: l.getD (4 * N + 1) 0 :: l.getD (4 * N + 2) 0 :: l.getD (4 * N + 3) 0 :: l.drop (4 * N + 4) := by
        rw [List.drop_eq_getElem_cons (by omega), List.drop_eq_getElem_cons (show 4 * N + 1 < l.length by omega), List.drop_eq_getElem_cons (show 4 * N + 1 + 1 < l.length by omega), List.drop_eq_getElem_cons (show 4 * N + 1 + 1 + 1 < l.length by omega)]
        simp only [List.getD_eq_getElem?_getD]
        rw [List.getElem?_eq_getElem (show 4 * N < l.length by omega), List.getElem?_eq_getElem (show 4 * N + 1 < l.length by omega), List.getElem?_eq_getElem (show 4 * N + 2 < l.length by omega), List.getElem?_eq_getElem (show 4 * N + 3 < l.length by omega)]
        rfl
      rw [d0]
      rfl
    rw [e, show 4 * (N + 1) = 4 * N + 4 by omega, List.take_add]
theorem flat_all {l : List UInt8} {N : Nat} (h : l.length = 4 * N) : flat ((List.range N).map (pcAt l)) = l := by
  rw [flat_pcAt N (by omega), ← h, List.take_length]
/-- an image's rows -/
def rowOf (l : List UInt8) (W y : Nat) : List Qc := (List.range W).map fun x => pcAt l (y * W + x)
def rowsOf (l : List UInt8) (W H : Nat) : List (List Qc) := (List.range H).map (rowOf l W)
theorem rowOf_len (l : List UInt8) (W y : Nat) : (rowOf l W y).length = W := by unfold rowOf; simp
theorem rows_flat (l : List UInt8) (W : Nat) : ∀ H, (rowsOf l W H).flatten = (List.range (H * W)).map (pcAt l)
  | 0 => by simp [rowsOf]
  | H + 1 => by
    unfold rowsOf
    rw [List.range_succ, List.map_append, List.flatten_append]
    have h := rows_flat l W H
    unfold rowsOf at h
    rw [h, Nat.add_mul, Nat.one_mul, List.range_add, List.map_append]
    congr 1
    simp [rowOf, Function.comp_def]
/-- a pixel as text, behind a byte -/
def pxT (K : Nat) (b : UInt8) (q : Qc) : List UInt8 := if K = 1 then [b, UInt8.ofNat (48 + (1 - q.r.toNat / 255))] else if K = 3 then b :: (dg q.r.toNat ++ 32 :: (dg q.g.toNat ++ 32 :: dg q.b.toNat)) else b :: dg q.r.toNat
def rowT (K : Nat) : List Qc → List UInt8
  | [] => []
  | q :: qs => (pxT K 10 q).tail ++ (qs.map (pxT K 32)).flatten
def row4B (row : List Qc) : List UInt8 := (List.range ((row.length + 7) / 8)).map fun j => UInt8.ofNat (pk4 row j)
def encRow (K : Nat) (row : List Qc) : List UInt8 := if K ≤ 3 then rowT K row ++ [10] else if K = 4 then row4B row else (row.map (pxB K)).flatten
def encRows (K : Nat) (rows : List (List Qc)) : List UInt8 := (rows.map (encRow K)).flatten
/-- a file -/
def encL (K W H : Nat) (l : List UInt8) : List UInt8 := hdrL K W H ++ encRows K (rowsOf l W H)
theorem px_nat (K : Nat) (b : UInt8) (q : Qc) : (pxT K b q).map UInt8.toNat = pxN K b.toNat q := by
  unfold pxT pxN
  split
  · have hk : 48 + (1 - q.r.toNat / 255) < 256 := by omega
    simp only [List.map_cons, List.map_nil, UInt8.toNat_ofNat']
    rw [Nat.mod_eq_of_lt hk]
  · split
    · unfold dN; simp
    · unfold dN; simp
theorem rowT_nat (K : Nat) (row : List Qc) : (rowT K row).map UInt8.toNat = rowN K row := by
  cases row with
  | nil => rfl
  | cons q qs =>
    unfold rowT rowN
    rw [List.map_append, List.map_tail, px_nat, List.map_flatten, List.map_map]
    congr 2
    refine List.map_congr_left fun x _ => ?_
    exact px_nat K 32 x
theorem encRows_text {K : Nat} (hK : K ≤ 3) (rows : List (List Qc)) : (encRows K rows).map UInt8.toNat = rowsN K rows := by
  unfold encRows rowsN
  rw [List.map_flatten, List.map_map]
  congr 1
  refine List.map_congr_left fun r _ => ?_
  show (encRow K r).map UInt8.toNat = _
  unfold encRow
  rw [if_pos hK, List.map_append, rowT_nat]
  rfl
theorem encRows_four (rows : List (List Qc)) : (encRows 4 rows).map UInt8.toNat = (rows.map row4N).flatten := by
  unfold encRows
  rw [List.map_flatten, List.map_map]
  congr 1
  refine List.map_congr_left fun r _ => ?_
  show (encRow 4 r).map UInt8.toNat = _
  unfold encRow
  rw [if_neg (by decide), if_pos rfl]
  unfold row4B row4N
  rw [List.map_map]
  refine List.map_congr_left fun j _ => ?_
  show (UInt8.ofNat (pk4 r j)).toNat = _
  rw [UInt8.toNat_ofNat', Nat.mod_eq_of_lt (pk4_lt r j)]
theorem encRows_raw {K : Nat} (hK : K = 5 ∨ K = 6) (rows : List (List Qc)) : (encRows K rows).map UInt8.toNat = (rows.flatten.map (pxBN K)).flatten := by
  unfold encRows
  have h : rows.map (encRow K) = rows.map fun r => (r.map (pxB K)).flatten := by
    refine List.map_congr_left fun r _ => ?_
    unfold encRow
    rw [if_neg (by omega), if_neg (by omega)]
  rw [h, List.map_flatten, List.map_map]
  induction rows with
  | nil => rfl
  | cons r rows ih =>
    have ih' := ih (by
      refine List.map_congr_left fun r _ => ?_
      unfold encRow
      rw [if_neg (by omega), if_neg (by omega)])
    simp only [List.map_cons, List.flatten_cons, List.map_append, List.flatten_append, ih']
    congr 1
    show ((r.map (pxB K)).flatten).map UInt8.toNat = _
    rw [List.map_flatten, List.map_map]
    rfl
/-- a file that is written tells its image -/
theorem encTold {s : ByteArray} {K W H : Nat} {l : List UInt8} (hK : 1 ≤ K ∧ K ≤ 6) (hW : 1 ≤ W ∧ W ≤ 16384) (hH : 1 ≤ H ∧ H ≤ 16384) (hs : s.data.toList = encL K W H l) (hl : l.length = 4 * (W * H)) (hq : ∀ i, i < W * H → mayQ K (pcAt l i)) :
    HeadOk s ⟨K, W, H, if K = 1 ∨ K = 4 then 1 else 255, encAt K W H, 0, 0⟩ ∧ (pnmDec s).told = .img W H l := by
  have hn : nats s = hdrN K W H ++ (encRows K (rowsOf l W H)).map UInt8.toNat := by
    unfold nats
    rw [hs]
    unfold encL
    rw [List.map_append, hdrN_is hK.2]
  have hhd := headEnc hK hW hH hn
  have hok : HeadOk s ⟨K, W, H, if K = 1 ∨ K = 4 then 1 else 255, encAt K W H, 0, 0⟩ := by
    have h := headOk_of (s := s) (by rw [hhd])
    rw [hhd] at h
    exact h
  refine ⟨hok, ?_⟩
  have hz : (rowsOf l W H).flatten.length = W * H := by rw [rows_flat]; simp [Nat.mul_comm]
  have hfl : flat (rowsOf l W H).flatten = l := by rw [rows_flat, Nat.mul_comm, flat_all hl]
  have hmem : ∀ r ∈ rowsOf l W H, r.length = W ∧ ∀ q ∈ r, mayQ K q := by
    intro r hr
    obtain ⟨y, hy, rfl⟩ := List.mem_map.1 hr
    refine ⟨rowOf_len l W y, fun q hqm => ?_⟩
    obtain ⟨x, hx, rfl⟩ := List.mem_map.1 hqm
    refine hq _ ?_
    have hy' := List.mem_range.1 hy
    have hx' := List.mem_range.1 hx
    have : y * W + W ≤ H * W := by
      rw [show y * W + W = (y + 1) * W by rw [Nat.add_mul, Nat.one_mul]]
      exact Nat.mul_le_mul (by omega) (Nat.le_refl _)
    rw [Nat.mul_comm W H]
    omega
  rw [pnmDec_told, hok.is, if_neg (by simp)]
  unfold bodyR
  simp only
  have hlen := hdr_len K W H
  have hNl : (hdrN K W H).length = (hdrL K W H).length := by rw [← hdrN_is hK.2, List.length_map]
  by_cases h3 : K ≤ 3
  · rw [if_pos h3]
    obtain ⟨pre, hpre⟩ : ∃ pre, hdrN K W H = pre ++ [10] := by
      unfold hdrN
      by_cases h : K = 1 ∨ K = 4
      · rw [if_pos h]; exact ⟨[80, 48 + K] ++ 10 :: (dN W ++ 32 :: dN H), by simp⟩
      · rw [if_neg h]; exact ⟨[80, 48 + K] ++ 10 :: (dN W ++ 32 :: (dN H ++ 10 :: [50, 53, 53])), by simp⟩
    have hat : encAt K W H = pre.length := by
      unfold encAt
      rw [if_pos h3, ← hNl, hpre]
      simp
    have hn' : nats s = pre ++ 10 :: rowsN K (rowsOf l W H) := by rw [hn, hpre, encRows_text h3]; simp
    have h := textRows (s := s) (W := W) (H := H) (M := if K = 1 ∨ K = 4 then 1 else 255) ⟨hK.1, h3⟩ (fun hk => if_neg (by omega)) (rowsOf l W H) pre [] hn' (fun r hr => ⟨by
      have := (hmem r hr).1
      intro e
      rw [e] at this
      simp at this
      omega, (hmem r hr).2⟩)
    rw [hz, List.nil_append, hfl] at h
    rw [hat]
    exact h
  · rw [if_neg h3]
    have hat : encAt K W H = (hdrN K W H).length := by unfold encAt; rw [if_neg h3, hNl]
    by_cases h4 : K = 4
    · rw [if_pos h4]
      subst h4
      rw [encRows_four] at hn
      have h := bitsRows (s := s) (H := H) hW.1 (rowsOf l W H) (hdrN 4 W H) [] (0, encAt 4 W H, 0) [] (by rw [hn]; simp) hmem ⟨rfl, by rw [hat]; simp, fun h => absurd rfl h⟩
      rw [hz, List.nil_append, hfl] at h
      exact h
    · rw [if_neg h4]
      have h56 : K = 5 ∨ K = 6 := by omega
      rw [encRows_raw h56] at hn
      have h := rawRun (s := s) (W := W) (H := H) h56 (rowsOf l W H).flatten (hdrN K W H) [] [] (by rw [hn]; simp) (fun q hqm => by
        obtain ⟨r, hr, hqr⟩ := List.mem_flatten.1 hqm
        exact (hmem r hr).2 q hqr)
      rw [hz, List.nil_append, hfl] at h
      rw [if_neg (show ¬ 255 < (if K = 1 ∨ K = 4 then 1 else 255) by rw [if_neg (by omega)]; decide), if_neg (show ¬ (K = 1 ∨ K = 4) by omega), hat]
      exact h
end Go.Proofs.YthljhebbblhakaaGreatDoor
namespace Go.Proofs.YthljhebbblhakaaGreatDoor
open Go.RowKit
set_option linter.unusedVariables false
set_option linter.unusedSimpArgs false

/-- can a pixel be written, of a kind -/
def mayB (K : Nat) (q : Qc) : Bool := ((q.a.toNat : Int) == 255) && ((K == 3 || K == 6) || (((q.r.toNat : Int) == (q.g.toNat : Int)) && ((q.g.toNat : Int) == (q.b.toNat : Int)))) && (!(K == 1 || K == 4) || (((q.r.toNat : Int) == 0) || ((q.r.toNat : Int) == 255)))
theorem u8_int (a b : UInt8) : ((a.toNat : Int) = (b.toNat : Int)) ↔ a = b :=
  ⟨fun h => UInt8.toNat_inj.1 (by omega), fun h => by rw [h]⟩
theorem mayB_iff {K : Nat} {q : Qc} : mayB K q = true ↔ mayQ K q := by
  have h255 := u8_int q.a 255
  have hr0 := u8_int q.r 0
  have hr255 := u8_int q.r 255
  have hrg := u8_int q.r q.g
  have hgb := u8_int q.g q.b
  have e255 : (((255 : UInt8).toNat : Nat) : Int) = 255 := rfl
  have e0 : (((0 : UInt8).toNat : Nat) : Int) = 0 := rfl
  rw [e255] at h255 hr255
  rw [e0] at hr0
  unfold mayB mayQ
  simp only [Bool.and_eq_true, Bool.or_eq_true, beq_iff_eq, Bool.not_eq_true', Bool.or_eq_false_iff, beq_eq_false_iff_ne]
  rw [h255, hr0, hr255, hrg, hgb]
  constructor
  · rintro ⟨⟨h1, h2⟩, h3⟩
    refine ⟨h1, fun hk => ?_, fun hk => ?_⟩
    · rcases h2 with h2 | h2
      · omega
      · exact h2
    · rcases h3 with ⟨h3, h4⟩ | h3
      · omega
      · exact h3
  · rintro ⟨h1, h2, h3⟩
    refine ⟨⟨h1, ?_⟩, ?_⟩
    · by_cases hk : K = 3 ∨ K = 6
      · exact .inl hk
      · exact .inr (h2 ⟨by omega, by omega⟩)
    · by_cases hk : K = 1 ∨ K = 4
      · exact .inr (h3 hk)
      · exact .inl ⟨by omega, by omega⟩
/-- a number's digits, as a text -/
def dec (n : Nat) : ByteArray := ⟨(Lib.decDigits n).toArray⟩
def d10 : ByteArray := ⟨#[48, 49, 50, 51, 52, 53, 54, 55, 56, 57]⟩
theorem dec_one {n : Nat} (h : n < 10) : dec n = d10.extract n (n + 1) := by
  have : n = 0 ∨ n = 1 ∨ n = 2 ∨ n = 3 ∨ n = 4 ∨ n = 5 ∨ n = 6 ∨ n = 7 ∨ n = 8 ∨ n = 9 := by omega
  rcases this with rfl | rfl | rfl | rfl | rfl | rfl | rfl | rfl | rfl | rfl <;> (unfold dec; rw [Lib.decDigits, dif_pos (by decide)]; rfl)
theorem dec_size' : ∀ n : Nat, (Lib.decDigits n).length ≤ n + 1 := by
  intro n
  induction n using Nat.strongRecOn with
  | ind n ih =>
    rw [Lib.decDigits]
    split
    · simp
    · have := ih (n / 10) (by omega)
      rw [List.length_append, List.length_singleton]
      omega
theorem dec_size (n : Nat) : (dec n).size ≤ n + 1 := by
  have := dec_size' n
  unfold dec
  rw [ByteArray.size]
  simpa using this
theorem dec_more {n : Nat} (h : ¬ n < 10) : dec n = dec (n / 10) ++ dec (n % 10) := by
  unfold dec
  rw [Lib.decDigits, dif_neg h, Lib.decDigits.eq_def (n % 10), dif_pos (by omega)]
  apply ByteArray.ext
  simp
set_option maxHeartbeats 1000000 in
theorem refDigitsC : ∀ (n : Nat), n ≤ 4611686018427387904 → ∀ w : World, Calls Tryz.prog 31 #[.int .i64 (n : Int)] w fun e w' => e = .returned (.string (dec n)) ∧ Below w.heap.size w w' := by
  intro n
  induction n using Nat.strongRecOn with
  | ind n ih =>
    intro hn w
    by_cases h : n < 10
    · have hI : (n : Int) < 10 := by omega
      have h0 : (0 : Int) ≤ (n : Int) := by omega
      have h1 : (n : Int) ≤ 10 := by omega
      rw [dec_one h]
      unfold d10
      have h2 : (n : Int) + 1 = ((n + 1 : Nat) : Int) := by omega
      obtain ⟨m, hm⟩ : ∃ m, n + 1 = m := ⟨_, rfl⟩
      rw [hm] at h2 ⊢
      have h3 : (m : Int) ≤ 10 := by omega
      have h4 : (n : Int) ≤ (m : Int) := by omega
      have h5 : n ≤ m := by omega
      have h6 : m ≤ 10 := by omega
      clear ih hm
      go_enter Tryz.func31, Tryz.ntmps31
      go_wp2_with fail
      go_ret
      exact ⟨rfl, Below.refl _ _⟩
    · have hI : ¬ (n : Int) < 10 := by omega
      have IH := Lib.hid (ih (n / 10) (by omega) (by omega))
      obtain ⟨q, hq⟩ : ∃ q, n / 10 = q := ⟨_, rfl⟩
      rw [dec_more h, hq]
      rw [hq] at IH
      have hqI : (n : Int) / 10 = (q : Int) := by omega
      obtain ⟨r, hr⟩ : ∃ r, n % 10 = r := ⟨_, rfl⟩
      have hr10 : r < 10 := by omega
      rw [hr, dec_one hr10]
      have hrI : (n : Int) % 10 = (r : Int) := by omega
      have h2 : (r : Int) + 1 = ((r + 1 : Nat) : Int) := by omega
      obtain ⟨m, hm⟩ : ∃ m, r + 1 = m := ⟨_, rfl⟩
      rw [hm] at h2 ⊢
      have h3 : (m : Int) ≤ 10 := by omega
      have h4 : (r : Int) ≤ (m : Int) := by omega
      have h5 : r ≤ m := by omega
      have h6 : m ≤ 10 := by omega
      have hsz := dec_size q
      have hex : (d10.extract r m).size ≤ 10 := by rw [ByteArray.size_extract]; have : d10.size = 10 := rfl; omega
      have hA : ∀ w : World, (Op.stringOp .add (dec q) (d10.extract r m)).run Tryz.prog w = .ok (.string (dec q ++ d10.extract r m)) w := fun w => run_string_add_sum w _ _ (by omega)
      unfold d10 at hA ⊢
      have hwq : IntKind.i64.wrap (q : Int) = (q : Int) := IntWalk.i64_in _ (by omega)
      have htm : (n : Int).tmod 10 = (r : Int) := by rw [Int.tmod_eq_emod_of_nonneg (by omega)]; exact hrI
      have hwm : IntKind.i64.wrap (m : Int) = (m : Int) := IntWalk.i64_in _ (by omega)
      have hwr : IntKind.i64.wrap (r : Int) = (r : Int) := IntWalk.i64_in _ (by omega)
      clear ih hm hr hq hsz hex
      go_enter Tryz.func31, Tryz.ntmps31
      go_wp2_with fail
      refine wp_region_held_drew (S := (fun _ => True)) (by kernel_rfl) trivial (fun hHeld => ?_)
      refine wpAnyH_take (i := 0) (v := ?_) rfl (by kernel_rfl) (by kernel_rfl) (by kernel_rfl) (fun _ _ _ h => h) (Or.inl ⟨by kernel_rfl, ?_⟩) (by assumption) ?_
      rotate_left
      · intro w hSw; (try dsimp only at hSw); go_simp; (try with_reducible rfl)
      (try simp only [Act.put, List.setIfInBounds_toArray, List.set_cons_zero, List.set_cons_succ])
      refine wpAnyH_take (i := 1) (v := ?_) rfl (by kernel_rfl) (by kernel_rfl) (by kernel_rfl) (fun _ _ _ h => h) (Or.inl ⟨by kernel_rfl, ?_⟩) (by assumption) ?_
      rotate_left
      · intro w hSw; (try dsimp only at hSw); go_simp; (try with_reducible rfl)
      (try simp only [Act.put, List.setIfInBounds_toArray, List.set_cons_zero, List.set_cons_succ])
      refine wpAnyH_take (i := 3) (v := ?_) rfl (by kernel_rfl) (by kernel_rfl) (by kernel_rfl) (fun _ _ _ h => h) (Or.inl ⟨by kernel_rfl, ?_⟩) (by assumption) ?_
      rotate_left
      · intro w hSw; (try dsimp only at hSw); go_simp; (try with_reducible rfl)
      (try simp only [Act.put, List.setIfInBounds_toArray, List.set_cons_zero, List.set_cons_succ])
      refine wpAnyH_take (i := 4) (v := ?_) rfl (by kernel_rfl) (by kernel_rfl) (by kernel_rfl) (fun _ _ _ h => h) (Or.inl ⟨by kernel_rfl, ?_⟩) (by assumption) ?_
      rotate_left
      · intro w hSw; (try dsimp only at hSw); go_simp; (try with_reducible rfl)
      (try simp only [Act.put, List.setIfInBounds_toArray, List.set_cons_zero, List.set_cons_succ])
      refine wpAnyH_take (i := 5) (v := ?_) rfl (by kernel_rfl) (by kernel_rfl) (by kernel_rfl) (fun _ _ _ h => h) (Or.inl ⟨by kernel_rfl, ?_⟩) (by assumption) ?_
      rotate_left
      · intro w hSw; (try dsimp only at hSw); go_simp; (try with_reducible rfl)
      (try simp only [Act.put, List.setIfInBounds_toArray, List.set_cons_zero, List.set_cons_succ])
      refine wpAnyH_take (i := 6) (v := ?_) rfl (by kernel_rfl) (by kernel_rfl) (by kernel_rfl) (fun _ _ _ h => h) (Or.inl ⟨by kernel_rfl, ?_⟩) (by assumption) ?_
      rotate_left
      · intro w hSw; (try dsimp only at hSw); go_simp; (try with_reducible rfl)
      (try simp only [Act.put, List.setIfInBounds_toArray, List.set_cons_zero, List.set_cons_succ])
      refine wpAnyH_take (i := 7) (v := ?_) rfl (by kernel_rfl) (by kernel_rfl) (by kernel_rfl) (fun _ _ _ h => h) (Or.inl ⟨by kernel_rfl, ?_⟩) (by assumption) ?_
      rotate_left
      · intro w hSw; (try dsimp only at hSw); go_simp; (try with_reducible rfl)
      (try simp only [Act.put, List.setIfInBounds_toArray, List.set_cons_zero, List.set_cons_succ])
      refine wpAnyH_take (i := 8) (v := ?_) rfl (by kernel_rfl) (by kernel_rfl) (by kernel_rfl) (fun _ _ _ h => h) (Or.inl ⟨by kernel_rfl, ?_⟩) (by assumption) ?_
      rotate_left
      · intro w hSw; (try dsimp only at hSw); go_simp; (try with_reducible rfl)
      (try simp only [Act.put, List.setIfInBounds_toArray, List.set_cons_zero, List.set_cons_succ])
      refine wpAnyH_take (i := 9) (v := ?_) rfl (by kernel_rfl) (by kernel_rfl) (by kernel_rfl) (fun _ _ _ h => h) (Or.inl ⟨by kernel_rfl, ?_⟩) (by assumption) ?_
      rotate_left
      · intro w hSw; (try dsimp only at hSw); go_simp; (try with_reducible rfl)
      (try simp only [Act.put, List.setIfInBounds_toArray, List.set_cons_zero, List.set_cons_succ])
      refine wpAnyH_ready (rs := [2]) (by kernel_rfl) (by simp) ?_
      refine AllReadyH.cons rfl (fun K hK => ?_) AllReadyH.nil
      go_simp
      refine (IH.out _).mono ?_
      rintro e w1 ⟨rfl, b1⟩
      refine hK.out _ _ trivial (fun hHeld' => ?_)
      clear hK K hHeld
      have hHeld := hHeld'
      clear hHeld'
      (try simp only [Act.put, List.setIfInBounds_toArray, List.set_cons_zero, List.set_cons_succ])
      refine wpAnyH_take (i := 10) (v := ?_) rfl (by kernel_rfl) (by kernel_rfl) (by kernel_rfl) (fun _ _ _ h => h) (Or.inl ⟨by kernel_rfl, ?_⟩) (by assumption) ?_
      rotate_left
      · intro w hSw; (try dsimp only at hSw); go_simp; (try with_reducible rfl)
      (try simp only [Act.put, List.setIfInBounds_toArray, List.set_cons_zero, List.set_cons_succ])
      refine wpAnyH_take (i := 11) (v := ?_) rfl (by kernel_rfl) (by kernel_rfl) (by kernel_rfl) (fun _ _ _ h => h) (Or.inl ⟨by kernel_rfl, ?_⟩) (by assumption) ?_
      rotate_left
      · intro w hSw; (try dsimp only at hSw); go_simp; (try with_reducible rfl)
      (try simp only [Act.put, List.setIfInBounds_toArray, List.set_cons_zero, List.set_cons_succ])
      refine wpAnyH_done (by kernel_rfl) ?_ _
      (try simp only [List.getElem_toArray, List.getElem_cons_succ, List.getElem_cons_zero, List.set_cons_zero, List.set_cons_succ])
      go_wp2_with fail
      go_ret
      exact ⟨rfl, (Below.refl _ _).drew.trans b1⟩
/-- the library's table that is read -/
def TabW (w : World) : Prop := Lib.TabIs Tryz.prog w "internal/strconv.uint64pow10" .u64 Lib.pow10Tab
theorem TabW.below {w w' : World} (h : TabW w) (b : Below w.heap.size w w') : TabW w' := Joins.tab_stays (g := 0) (by kernel_rfl) h b (Nat.le_refl _)
theorem itoaC {w : World} (h : TabW w) {n : Nat} (hn : n ≤ 4611686018427387904) : Calls Tryz.prog 25 #[.int .i64 (n : Int)] w fun e w' => e = .returned (.string (dec n)) ∧ Below w.heap.size w w' := by
  refine (Tryz.strconv_Itoa (n : Int) (by omega) (by omega) w h).mono ?_
  rintro e w' ⟨rfl, k, os, rfl⟩
  refine ⟨?_, Lib.below_grow _ _ (Nat.le_refl _) k os⟩
  have : Lib.itoa (n : Int) = Lib.decDigits n := by unfold Lib.itoa; rw [if_neg (by omega)]; rfl
  rw [this]
  rfl
/-- a pixel of an image, the program's and the document's -/
theorem px_both {W H X Y : Nat} {a : Option Addr} {n c : Nat} {l : List UInt8} (hr : RightP (W : Int) (H : Int) n) (hl : n = l.length) (hnc : n ≤ c) (hX : X < W) (hY : Y < H) :
    (∀ w, BytesAt w a n l → Calls Tryz.prog 26 #[.agg #[.int .i64 (W : Int), .int .i64 (H : Int), .slice a n c], .int .i64 (X : Int), .int .i64 (Y : Int)] w fun e w' => e = .returned (.tuple #[(pcAt l (Y * W + X)).v, .bool true]) ∧ Below w.heap.size w w')
    ∧ (∀ w, BytesAt w a n l → Calls Tryz.prog 30 #[.agg #[.int .i64 (W : Int), .int .i64 (H : Int), .slice a n c], .int .i64 (X : Int), .int .i64 (Y : Int)] w fun e w' => e = .returned (pcAt l (Y * W + X)).v ∧ Below w.heap.size w w') := by
  have hn : 4 * (W * H) = n := by
    have := hr.2.2
    have e : 4 * (W : Int) * (H : Int) = ((4 * (W * H) : Nat) : Int) := by rw [Int.mul_assoc]; simp
    rw [e] at this
    omega
  have hYW : Y * W + W ≤ H * W := by
    rw [show Y * W + W = (Y + 1) * W by rw [Nat.add_mul, Nat.one_mul]]
    exact Nat.mul_le_mul (by omega) (Nat.le_refl _)
  have hin : 4 * (Y * W + X) + 4 ≤ n := by rw [← hn, Nat.mul_comm W H]; omega
  obtain ⟨i, hi⟩ : ∃ i, Y * W + X = i := ⟨_, rfl⟩
  rw [hi] at hin
  have hq : (l.drop (4 * (Y * W + X))).take 4 = [(pcAt l i).r, (pcAt l i).g, (pcAt l i).b, (pcAt l i).a] := by
    rw [hi]
    have d0 : l.drop (4 * i) = l.getD (4 * i) 0 :: l.getD (4 * i + 1) 0 :: l.getD (4 * i + 2) 0 :: l.getD (4 * i + 3) 0 :: l.drop (4 * i + 4) := by
      rw [List.drop_eq_getElem_cons (by omega), List.drop_eq_getElem_cons (show 4 * i + 1 < l.length by omega), List.drop_eq_getElem_cons (show 4 * i + 1 + 1 < l.length by omega), List.drop_eq_getElem_cons (show 4 * i + 1 + 1 + 1 < l.length by omega)]
      simp only [List.getD_eq_getElem?_getD]
      rw [List.getElem?_eq_getElem (show 4 * i < l.length by omega), List.getElem?_eq_getElem (show 4 * i + 1 < l.length by omega), List.getElem?_eq_getElem (show 4 * i + 2 < l.length by omega), List.getElem?_eq_getElem (show 4 * i + 3 < l.length by omega)]
      rfl
    rw [d0]
    rfl
  have hcell : ∀ w, BytesAt w a n l → ∃ b off, a = some ⟨b, off, none⟩ ∧ ∀ j (hj : j < l.length), w.cell? ⟨b, off + j, none⟩ = some (.int .u8 (l[j].toNat : Int)) := by
    intro w hb
    rcases hb.2 with h0 | h1
    · omega
    · exact h1
  rw [hi]
  refine ⟨fun w hb => ?_, fun w hb => ?_⟩
  · obtain ⟨b, off, rfl, hc⟩ := hcell w hb
    exact pixel_yes hr hl hc hnc hX hY rfl (by rw [hi]) hin (by rw [← hi] at hq ⊢; exact hq)
  · obtain ⟨b, off, rfl, hc⟩ := hcell w hb
    exact refPixel_yes hr hl hc hnc hX hY rfl (by rw [hi]) hin (by rw [← hi] at hq ⊢; exact hq)
end Go.Proofs.YthljhebbblhakaaGreatDoor
namespace Go.Proofs.YthljhebbblhakaaGreatDoor
open Go.RowKit
set_option linter.unusedVariables false
set_option linter.unusedSimpArgs false

set_option maxRecDepth 100000 in
set_option maxHeartbeats 4000000 in
theorem rawMayC {K : Nat} (hK : K = 4 ∨ K = 5 ∨ K = 6) (q : Qc) (w : World) : Calls Tryz.prog 38 #[q.v, .int .i64 (K : Int)] w fun e w' => e = .returned (.bool (mayB K q)) ∧ Below w.heap.size w w' := by
  unfold mayB Qc.v
  obtain ⟨b1, h1⟩ : ∃ b, ((q.a.toNat : Int) == 255) = b := ⟨_, rfl⟩
  obtain ⟨b2, h2⟩ : ∃ b, ((q.r.toNat : Int) == (q.g.toNat : Int)) = b := ⟨_, rfl⟩
  obtain ⟨b3, h3⟩ : ∃ b, ((q.g.toNat : Int) == (q.b.toNat : Int)) = b := ⟨_, rfl⟩
  obtain ⟨b4, h4⟩ : ∃ b, ((q.r.toNat : Int) == 0) = b := ⟨_, rfl⟩
  obtain ⟨b5, h5⟩ : ∃ b, ((q.r.toNat : Int) == 255) = b := ⟨_, rfl⟩
  have B0 : Below w.heap.size w (w.alloc (.cells #[.int .u8 (q.r.toNat : Int), .int .u8 (q.g.toNat : Int), .int .u8 (q.b.toNat : Int), .int .u8 (q.a.toNat : Int)] 48)) := (Below.refl _ _).alloc (Nat.le_refl _) _
  rw [h1, h2, h3, h4, h5]
  rcases hK with rfl | rfl | rfl <;> cases b1 <;> cases b2 <;> cases b3 <;> cases b4 <;> cases b5
  all_goals
    go_enter Tryz.func38, Tryz.ntmps38
    go_wp2_with fail
    go_ret
    exact ⟨rfl, B0⟩
end Go.Proofs.YthljhebbblhakaaGreatDoor
