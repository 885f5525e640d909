/- tgarle.Packets. -/
import Derived.Test.YtkaijekdnbhjaaaTga1
import Derived.Test.YtkaijekdnbhjaaaAppendOne
import Derived.Test.YtkaijekdnbhjaaaBits
namespace Go.Proofs.Ytkaijekdnbhjaaa
open Go.RowKit
set_option linter.unusedVariables false
set_option linter.unusedSimpArgs false

def strs (L : List ByteArray) : List Value := L.map Value.string
theorem strs_len (L : List ByteArray) : (strs L).length = L.length := by simp [strs]
theorem Owns1.slice {w : World} {base : Nat} {e : TypeId} {v : Value} {l : List Value} (h : Owns1 w base e v l) : ∃ a c, v = .slice a l.length c := by
  rcases h.form with ⟨rfl, rfl⟩ | ⟨g, cap, rfl, _⟩
  · exact ⟨none, 0, rfl⟩
  · exact ⟨_, _, rfl⟩
def pixS (s : ByteArray) (A1 T size j : Nat) : List ByteArray := (List.range j).map fun i => s.extract (A1 + min i (T - 1) * size) (A1 + min i (T - 1) * size + size)
theorem pixS_succ (s : ByteArray) (A1 T size j : Nat) : pixS s A1 T size (j + 1) = pixS s A1 T size j ++ [s.extract (A1 + min j (T - 1) * size) (A1 + min j (T - 1) * size + size)] := by
  simp [pixS, List.range_succ]
theorem pixS_len (s : ByteArray) (A1 T size j : Nat) : (pixS s A1 T size j).length = j := by simp [pixS]
theorem extract_list (s : ByteArray) (a b : Nat) : (s.extract a b).data.toList = (s.data.toList.drop a).take (b - a) := by
  simp [ByteArray.data_extract, Array.toList_extract, List.extract_eq_take_drop]
theorem BL_pix (s : ByteArray) (A1 size : Nat) (b : UInt8) : BL (pixS s A1 (thr b) size (cnt b)) = pixelsOf b (s.data.toList.drop A1) size := by
  unfold BL pixS pixelsOf
  rw [List.map_map]
  refine List.map_congr_left fun i _ => ?_
  simp only [Function.comp]
  rw [extract_list, List.drop_drop, Nat.add_sub_cancel_left]
theorem infoStr : (Try.prog.info? 9).map (fun i => (i.zero, i.size, i.bytes)) = some (some (.string ⟨#[]⟩), 1, 16) := by kernel_rfl
/-- the answer of Packets -/
def PAns (r : PRes) (base : Nat) (e : Ending) (w' : World) : Prop := match r with
  | .bad k => e = .returned (.tuple #[.slice none 0 0, .int .i64 0, .int .i64 (k : Int)])
  | .ok l c => ∃ v L, e = .returned (.tuple #[v, .int .i64 (c : Int), .int .i64 0]) ∧ Owns1 w' base 9 v (strs L) ∧ BL L = l
theorem and127 {B : Nat} (h : B < 256) : bits .and .i64 (B : Int) 127 = ((B % 128 : Nat) : Int) := and_mask B 7 (by omega) (by omega)
theorem and128_low {B : Nat} (h : B < 128) : bits .and .i64 (B : Int) 128 = 0 := by
  have e : B &&& 128 = 0 := (by decide : ∀ B, B < 128 → B &&& 128 = 0) B h
  have := and64 B 128 (by omega) (by omega)
  rw [e] at this
  exact this
theorem and128_high {B : Nat} (h : 128 ≤ B) (h2 : B < 256) : bits .and .i64 (B : Int) 128 = 128 := by
  have e : B &&& 128 = 128 := by
    have := (by decide : ∀ B, B < 128 → (128 + B) &&& 128 = 128) (B - 128) (by omega)
    rwa [show 128 + (B - 128) = B by omega] at this
  have := and64 B 128 (by omega) (by omega)
  rw [e] at this
  exact this
theorem prod_in {m s p : Nat} (h : m * s = p) (hp : p ≤ 1099511627776) : IntKind.i64.wrap ((m : Int) * (s : Int)) = (p : Int) := by
  have e : (m : Int) * (s : Int) = (p : Int) := by rw [← h]; exact (Int.natCast_mul m s).symm
  rw [e]
  exact IntWalk.i64_in _ (by omega)
/-- the packets from A on, behind the pixels L -/
def Rest (size n : Nat) (s : ByteArray) (A : Nat) (L : List ByteArray) : Prop := (unpackL size (s.data.toList.drop A) (n - L.length)).push (BL L) A = unpackL size s.data.toList n
theorem drop_cons {s : ByteArray} {A : Nat} (h : A < s.size) : s.data.toList.drop A = s[A] :: s.data.toList.drop (A + 1) := by
  have hl : A < s.data.toList.length := by rw [list_len]; exact h
  rw [List.drop_eq_getElem_cons hl]
  rfl
theorem Rest.cons {size n A : Nat} {s : ByteArray} {L : List ByteArray} (h : Rest size n s A L) (hA : A < s.size) (hL : L.length < n) :
    unpackL size s.data.toList n = (if n - L.length < cnt s[A] then .bad 11 else if s.size - (A + 1) < thr s[A] * size then .bad 5 else (unpackL size (s.data.toList.drop (A + 1 + thr s[A] * size)) (n - L.length - cnt s[A])).push (BL L ++ pixelsOf s[A] (s.data.toList.drop (A + 1)) size) (A + 1 + thr s[A] * size)) := by
  rw [← h, drop_cons hA, unpackL_cons _ _ (by omega), List.length_drop, list_len, List.drop_drop]
  by_cases h1 : n - L.length < cnt s[A]
  · rw [if_pos h1, if_pos h1]; rfl
  · rw [if_neg h1, if_neg h1]
    by_cases h2 : s.size - (A + 1) < thr s[A] * size
    · rw [if_pos h2, if_pos h2]; rfl
    · rw [if_neg h2, if_neg h2]
      cases unpackL size (s.data.toList.drop (A + 1 + thr s[A] * size)) (n - L.length - cnt s[A]) with
      | bad e => rfl
      | ok l c => simp only [PRes.push, PRes.ok.injEq, List.append_assoc, true_and]; omega
theorem Rest.next {size n A : Nat} {s : ByteArray} {L : List ByteArray} (h : Rest size n s A L) (hA : A < s.size) (hL : L.length < n) (h1 : ¬ n - L.length < cnt s[A]) (h2 : ¬ s.size - (A + 1) < thr s[A] * size) :
    Rest size n s (A + 1 + thr s[A] * size) (L ++ pixS s (A + 1) (thr s[A]) size (cnt s[A])) := by
  have := h.cons hA hL
  rw [if_neg h1, if_neg h2] at this
  unfold Rest
  rw [this, List.length_append, pixS_len, Nat.sub_add_eq]
  have e : BL (L ++ pixS s (A + 1) (thr s[A]) size (cnt s[A])) = BL L ++ pixelsOf s[A] (s.data.toList.drop (A + 1)) size := by
    rw [← BL_pix]; simp [BL]
  rw [e]
theorem Rest.end_ {size n A : Nat} {s : ByteArray} {L : List ByteArray} (h : Rest size n s A L) (hL : n = L.length) : unpackL size s.data.toList n = .ok (BL L) A := by
  rw [← h, hL, Nat.sub_self, unpackL_zero]
  simp [PRes.push]
theorem Rest.short {size n A : Nat} {s : ByteArray} {L : List ByteArray} (h : Rest size n s A L) (hA : s.size ≤ A) (hL : L.length < n) : unpackL size s.data.toList n = .bad 5 := by
  rw [← h, List.drop_of_length_le (by rw [list_len]; exact hA), unpackL_nil (by omega)]
  rfl
end Go.Proofs.Ytkaijekdnbhjaaa
