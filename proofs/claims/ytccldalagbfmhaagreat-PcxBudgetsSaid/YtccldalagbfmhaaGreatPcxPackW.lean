/- Plain: a row's packets by runs of equal bytes. pcx.Pack and the reference's Pack: both are the packets of PackLaw. The walk of PcxPacks. -/
import Derived.Test.YtccldalagbfmhaaGreatWords
namespace Go.Proofs.YtccldalagbfmhaaGreat
set_option linter.unusedVariables false

/-- how many of the first bytes are x, at most m -/
def runOf (x : UInt8) : Nat → List UInt8 → Nat
  | 0, _ => 0
  | _ + 1, [] => 0
  | m + 1, y :: t => if y = x then runOf x m t + 1 else 0

/-- n is the length of the run at the list's head, at most m -/
structure IsRun (m : Nat) (l : List UInt8) (n : Nat) : Prop where
  pos : 1 ≤ n
  le : n ≤ m
  len : n ≤ l.length
  same : ∀ j, j < n → l[j]? = l[0]?
  stop : n < m → n < l.length → l[n]? ≠ l[0]?

theorem runOf_spec (x : UInt8) (m : Nat) (l : List UInt8) : runOf x m l ≤ m ∧ runOf x m l ≤ l.length ∧ (∀ j, j < runOf x m l → l[j]? = some x) ∧ (runOf x m l < m → runOf x m l < l.length → l[runOf x m l]? ≠ some x) := by
  induction m generalizing l with
  | zero => simp [runOf]
  | succ m ih =>
    cases l with
    | nil => simp [runOf]
    | cons y t =>
      obtain ⟨a, b, c, d⟩ := ih t
      by_cases h : y = x
      · simp only [runOf, if_pos h]
        refine ⟨by omega, by simp; omega, fun j hj => ?_, fun h1 h2 => ?_⟩
        · cases j with
          | zero => simp [h]
          | succ j => simpa using c j (by omega)
        · simpa using d (by omega) (by simpa using h2)
      · simp only [runOf, if_neg h]
        refine ⟨by omega, by simp, fun j hj => by omega, fun _ _ => by simpa using h⟩

theorem isRun_unique {m : Nat} {l : List UInt8} {n k : Nat} (a : IsRun m l n) (b : IsRun m l k) : n = k := by
  rcases Nat.lt_trichotomy n k with h | h | h
  · exact absurd (b.same n h) (a.stop (by have := b.le; omega) (by have := b.len; omega))
  · exact h
  · exact absurd (a.same k h) (b.stop (by have := a.le; omega) (by have := a.len; omega))

theorem isRun_of (x : UInt8) (m : Nat) (t : List UInt8) : IsRun (m + 1) (x :: t) (runOf x m t + 1) := by
  obtain ⟨a, b, c, d⟩ := runOf_spec x m t
  refine ⟨by omega, by omega, by simp; omega, fun j hj => ?_, fun h1 h2 => ?_⟩
  · cases j with
    | zero => rfl
    | succ j => simpa using c j (by omega)
  · simpa using d (by omega) (by simpa using h2)

/-- one packet of PCX -/
def pcxPkHead (n : Nat) (x : UInt8) : List UInt8 := if 1 < n ∨ 192 ≤ x.toNat then [UInt8.ofNat (192 + n), x] else [x]
def pcxF : Nat → List UInt8 → List UInt8
  | 0, _ => []
  | _ + 1, [] => []
  | f + 1, x :: t => pcxPkHead (runOf x 62 t + 1) x ++ pcxF f (t.drop (runOf x 62 t))
def pcxPack (l : List UInt8) : List UInt8 := pcxF l.length l

theorem pcxF_more (f : Nat) : ∀ (g : Nat) (l : List UInt8), l.length ≤ f → l.length ≤ g → pcxF f l = pcxF g l := by
  induction f with
  | zero =>
    intro g l h _
    cases l with
    | nil => cases g <;> rfl
    | cons => simp at h
  | succ f ih =>
    intro g l h hg
    cases l with
    | nil => cases g <;> rfl
    | cons x t =>
      cases g with
      | zero => simp at hg
      | succ g =>
        simp only [pcxF]
        rw [ih g _ (by simp at h ⊢; omega) (by simp at hg ⊢; omega)]

theorem pcxPack_nil : pcxPack [] = [] := rfl
theorem pcxPack_cons {l : List UInt8} {n : Nat} {x : UInt8} (h : IsRun 63 l n) (hx : l[0]? = some x) : pcxPack l = pcxPkHead n x ++ pcxPack (l.drop n) := by
  cases l with
  | nil => simp at hx
  | cons y t =>
    obtain rfl : y = x := by simpa using hx
    obtain rfl := isRun_unique h (isRun_of y 62 t)
    show pcxF (t.length + 1) (y :: t) = _
    simp only [pcxF, List.drop_succ_cons, pcxPack]
    rw [pcxF_more t.length (t.drop (runOf y 62 t)).length _ (by simp) (by omega)]

theorem pcxHead_len (n : Nat) (x : UInt8) : (pcxPkHead n x).length ≤ 2 ∧ 1 ≤ (pcxPkHead n x).length := by unfold pcxPkHead; split <;> simp
theorem pcxPack_len (k : Nat) : ∀ l : List UInt8, l.length ≤ k → (pcxPack l).length ≤ 2 * l.length := by
  induction k with
  | zero => intro l h; cases l with | nil => simp [pcxPack_nil] | cons => simp at h
  | succ k ih =>
    intro l h
    cases l with
    | nil => simp [pcxPack_nil]
    | cons x t =>
      have hr := isRun_of x 62 t
      rw [pcxPack_cons hr (x := x) rfl, List.length_append]
      have := ih ((x :: t).drop (runOf x 62 t + 1)) (by simp at h ⊢; omega)
      have h2 := (pcxHead_len (runOf x 62 t + 1) x).1
      have h3 := hr.len
      rw [List.length_drop] at this
      simp at *
      omega
theorem pcxPack_awake : pcxPack [10, 10, 10, 197] = [195, 10, 193, 197] := by decide

/-- one packet of SUN -/
def sunPkHead (n : Nat) (x : UInt8) : List UInt8 :=
  if 2 < n ∨ (n = 2 ∧ x = 128) then [128, UInt8.ofNat (n - 1), x] else if x = 128 then [128, 0] else List.replicate n x
def sunF : Nat → List UInt8 → List UInt8
  | 0, _ => []
  | _ + 1, [] => []
  | f + 1, x :: t => sunPkHead (runOf x 255 t + 1) x ++ sunF f (t.drop (runOf x 255 t))
def sunPack (l : List UInt8) : List UInt8 := sunF l.length l

theorem sunF_more (f : Nat) : ∀ (g : Nat) (l : List UInt8), l.length ≤ f → l.length ≤ g → sunF f l = sunF g l := by
  induction f with
  | zero =>
    intro g l h _
    cases l with
    | nil => cases g <;> rfl
    | cons => simp at h
  | succ f ih =>
    intro g l h hg
    cases l with
    | nil => cases g <;> rfl
    | cons x t =>
      cases g with
      | zero => simp at hg
      | succ g =>
        simp only [sunF]
        rw [ih g _ (by simp at h ⊢; omega) (by simp at hg ⊢; omega)]

theorem sunPack_nil : sunPack [] = [] := rfl
theorem sunPack_cons {l : List UInt8} {n : Nat} {x : UInt8} (h : IsRun 256 l n) (hx : l[0]? = some x) : sunPack l = sunPkHead n x ++ sunPack (l.drop n) := by
  cases l with
  | nil => simp at hx
  | cons y t =>
    obtain rfl : y = x := by simpa using hx
    obtain rfl := isRun_unique h (isRun_of y 255 t)
    show sunF (t.length + 1) (y :: t) = _
    simp only [sunF, List.drop_succ_cons, sunPack]
    rw [sunF_more t.length (t.drop (runOf y 255 t)).length _ (by simp) (by omega)]
theorem sunPkHead_len (n : Nat) (x : UInt8) (h : 1 ≤ n) : (sunPkHead n x).length ≤ 2 * n := by
  unfold sunPkHead
  split
  · rename_i h'; simp; omega
  · split <;> simp <;> omega
theorem sunPack_awake : sunPack [10, 10, 10, 128] = [128, 2, 10, 128, 0] := by decide
/-- the run's bytes themselves -/
theorem run_take {m n : Nat} {l : List UInt8} {x : UInt8} (h : IsRun m l n) (hx : l[0]? = some x) : l.take n = List.replicate n x := by
  refine List.eq_replicate_iff.2 ⟨by rw [List.length_take]; have := h.len; omega, fun b hb => ?_⟩
  obtain ⟨j, hj, rfl⟩ := List.mem_iff_getElem.1 hb
  have hj' : j < n := by rw [List.length_take] at hj; omega
  have e := h.same j hj'
  rw [hx] at e
  have e2 : (l.take n)[j]? = l[j]? := by rw [List.getElem?_take, if_pos hj']
  rw [List.getElem?_eq_getElem hj] at e2
  rw [e] at e2
  exact Option.some.inj e2
/-- the plain way's bytes: each, and a nought behind each mark -/
def sunPkPlain (n : Nat) (x : UInt8) : List UInt8 := (List.replicate n (if x = 128 then [128, 0] else [x])).flatten
theorem sunPkPlain_succ (n : Nat) (x : UInt8) : sunPkPlain (n + 1) x = sunPkPlain n x ++ (if x = 128 then [128, 0] else [x]) := by
  unfold sunPkPlain
  rw [List.replicate_succ', List.flatten_append]
  simp
theorem sunPkPlain_len (n : Nat) (x : UInt8) : (sunPkPlain n x).length ≤ 2 * n := by
  induction n with
  | zero => simp [sunPkPlain]
  | succ n ih => rw [sunPkPlain_succ, List.length_append]; split <;> simp <;> omega
theorem sunPkHead_plain {n : Nat} {x : UInt8} (h1 : 1 ≤ n) (h : ¬ (2 < n ∨ (n = 2 ∧ x = 128))) : sunPkHead n x = sunPkPlain n x := by
  rw [sunPkHead, if_neg h]
  by_cases hx : x = 128
  · obtain rfl : n = 1 := by
      rcases Nat.lt_or_ge n 2 with g | g
      · omega
      · exact absurd (by rcases Nat.lt_or_ge 2 n with g' | g'
                         · exact .inl g'
                         · exact .inr ⟨by omega, hx⟩) h
    rw [if_pos hx, hx]
    rfl
  · rw [if_neg hx]
    unfold sunPkPlain
    rw [if_neg hx]
    clear h h1
    induction n with
    | zero => rfl
    | succ n ih => rw [List.replicate_succ, List.replicate_succ, List.flatten_cons, ← ih]; rfl
end Go.Proofs.YtccldalagbfmhaaGreat
namespace Go.Proofs.YtccldalagbfmhaaGreat
open Go.RowKit
set_option linter.unusedVariables false

set_option maxHeartbeats 1000000 in
theorem pcxPack_any (s : ByteArray) (w : World) (hs : s.size ≤ 1073741824) :
    Calls Tryz.prog 74 #[.string s] w fun e w' => e = .returned (.string (strOf (pcxPack s.data.toList))) ∧ Below w.heap.size w w' := by
  go_enter Tryz.func74, Tryz.ntmps74
  go_wp2_with fail
  go_loopg [0, 3, 4] s.size (fun g row out n wr => ∃ (r : ByteArray) (acc : List UInt8), row = .string r ∧ r.size = g ∧ r.size ≤ s.size ∧ acc.length + 2 * r.size ≤ 2 * s.size ∧ Owns8 wr w.heap.size out acc ∧ Hid (acc ++ pcxPack r.data.toList = pcxPack s.data.toList) ∧ Below w.heap.size w wr)
  case atStart => exact ⟨s, [], rfl, rfl, by omega, by simp, Owns8.nil _ _, Lib.hid rfl, Below.refl _ _⟩
  case round =>
    obtain ⟨r, acc, rfl, rfl, hr, hal, hown, hacc, hb⟩ := hrel
    by_cases h0 : 0 < r.size
    · go_upto_block 2 with fail
      go_cut [4] (fun n wc => ∃ k m : Nat, n = .int .i64 k ∧ IsRun 63 r.data.toList k ∧ wc = wr.drewN m)
      case first =>
        go_wp2_with fail
        go_loopg [4] 62 (fun g n w2 => ∃ k m : Nat, 63 = k + g ∧ 1 ≤ k ∧ k ≤ r.size ∧ k ≤ 63 ∧ n = .int .i64 k ∧ Hid (∀ j, j < k → r.data.toList[j]? = r.data.toList[0]?) ∧ w2 = wr.drewN m)
        case atStart => exact ⟨1, 0, by omega, by omega, by omega, by omega, rfl, Lib.hid (fun j hj => by rw [show j = 0 by omega]), rfl⟩
        case round =>
          obtain ⟨k, m, hg, hk1, hk2, hk3, rfl, hsame, rfl⟩ := hrel
          by_cases h63 : (63 : Int) < (r.size : Int)
          all_goals
            by_cases hlt : k < r.size ∧ k < 63
            · obtain ⟨l1, l2⟩ := hlt
              have l3 : (k : Int) < (r.size : Int) := by omega
              have l4 : (k : Int) < 63 := by omega
              have g1 := Lib.hid (get_list l1)
              have g0 := Lib.hid (get_list h0)
              cases hc : ((r[k].toNat : Int) == (r[0].toNat : Int))
              · go_wp2_with fail
                go_quiet (fail)
                go_wp2_with fail
                go_meet
                case rel =>
                  exact ⟨k, _, rfl, ⟨hk1, hk3, by rw [list_len]; omega, hsame.out, fun _ _ => by
                    rw [g1.out, g0.out]
                    intro e
                    have e' : r[k] = r[0] := Option.some.inj e
                    rw [e'] at hc
                    simp at hc⟩, World.drewN_drewN _ _ _⟩
              · go_wp2_with fail
                go_quiet (fail)
                go_wp2_with fail
                go_roundg (62 - k)
                case measure => omega
                case rel =>
                  exact ⟨k + 1, _, by omega, by omega, by omega, by omega, by go_num, Lib.hid (by
                    intro j hj
                    rcases Nat.lt_succ_iff_lt_or_eq.1 hj with h | rfl
                    · exact hsame.out j h
                    · rw [g1.out, g0.out]
                      have e' : (r[j].toNat : Int) = (r[0].toNat : Int) := by simpa using hc
                      have e2 : r[j] = r[0] := UInt8.toNat.inj (by omega)
                      rw [e2]), rfl⟩
            · have q1 : k = r.size ∨ k = 63 := by omega
              have q2 : decide ((k : Int) < 63) = false ∨ decide (k < r.size) = false := by
                rcases q1 with q | q
                · exact .inr (decide_eq_false (by omega))
                · exact .inl (decide_eq_false (by omega))
              have q3 : (k : Int) < 63 ∨ ¬ (k : Int) < 63 := by omega
              first
                | (have l4 : decide ((k : Int) < 63) = false := decide_eq_false (by omega)
                   go_wp2_with fail
                   go_quiet (fail)
                   go_wp2_with fail
                   go_meet
                   case rel => exact ⟨k, _, rfl, ⟨hk1, hk3, by rw [list_len]; omega, hsame.out, fun a b => by rw [list_len] at b; omega⟩, World.drewN_drewN _ _ _⟩)
                | (have l4 : decide (k < r.size) = false := decide_eq_false (by omega)
                   go_wp2_with fail
                   go_quiet (fail)
                   go_wp2_with fail
                   go_meet
                   case rel => exact ⟨k, _, rfl, ⟨hk1, hk3, by rw [list_len]; omega, hsame.out, fun a b => by rw [list_len] at b; omega⟩, World.drewN_drewN _ _ _⟩)
      case rest =>
        obtain ⟨k, m, rfl, hrun, rfl⟩ := hcut
        have k1 := hrun.pos
        have k2 := hrun.le
        have k3 := hrun.len
        rw [list_len] at k3
        have g0 := Lib.hid (get_list h0)
        have cons := Lib.hid (pcxPack_cons hrun (get_list h0))
        have hz := hb.size
        have hd : (r.extract k r.size).size = r.size - k := by simp
        have hd2 := Lib.hid (extract_drop r k)
        obtain ⟨pb, pb1, pb2⟩ : ∃ b : UInt8, Hid (b = UInt8.ofNat (192 + k)) ∧ Hid ((b.toNat : Int) = 192 + (k : Int)) := ⟨_, rfl, by show ((UInt8.ofNat (192 + k)).toNat : Int) = _; rw [ofNat8 (by omega)]; omega⟩
        by_cases cc : (1 : Int) < (k : Int) ∨ (192 : Int) ≤ (r[0].toNat : Int)
        · have hh : Hid (pcxPkHead k r[0] = [pb, r[0]]) := Lib.hid (by rw [pcxPkHead, if_pos (by omega), pb1.out])
          by_cases c1 : (1 : Int) < (k : Int)
          · clear cc
            go_wp2_with (first | (at_builtin; refine wpList_append_byte rfl (.tmp 30) (.tmp 34) rfl w.heap.size _ acc rfl ((hown.drewN _).alloc _) _ rfl pb ?_ ?_ ?_ ?_; (exact (cell_new _ _ _ 0 _ rfl).trans (by rw [pb2.out]; rfl)); (omega); (simp; omega); intro v1 w1 own1 hb1 _; have hb1' := ((below_drewN hb m).alloc (by simp; omega) _).trans hb1) | (at_builtin; refine wpList_append_byte rfl (.tmp 36) (.tmp 39) rfl w.heap.size _ _ rfl (own1.alloc _) _ rfl r[0] ?_ ?_ ?_ ?_; (exact cell_new _ _ _ 0 _ rfl); (simp; omega); (have := hb1'.size; simp; omega); intro v2 w2 own2 hb2 _; have hb2' := (hb1'.alloc hb1'.size _).trans hb2))
            go_roundg (r.size - k)
            case measure => omega
            case rel =>
              refine ⟨_, _, rfl, hd, by omega, by simp; omega, own2, Lib.hid ?_, hb2'⟩
              rw [← hacc.out, cons.out, hh.out, hd2.out]
              simp
          · have c2 : (192 : Int) ≤ (r[0].toNat : Int) := by omega
            clear cc
            go_wp2_with (first | (at_builtin; refine wpList_append_byte rfl (.tmp 30) (.tmp 34) rfl w.heap.size _ acc rfl ((hown.drewN _).alloc _) _ rfl pb ?_ ?_ ?_ ?_; (exact (cell_new _ _ _ 0 _ rfl).trans (by rw [pb2.out]; rfl)); (omega); (simp; omega); intro v1 w1 own1 hb1 _; have hb1' := ((below_drewN hb m).alloc (by simp; omega) _).trans hb1) | (at_builtin; refine wpList_append_byte rfl (.tmp 36) (.tmp 39) rfl w.heap.size _ _ rfl (own1.alloc _) _ rfl r[0] ?_ ?_ ?_ ?_; (exact cell_new _ _ _ 0 _ rfl); (simp; omega); (have := hb1'.size; simp; omega); intro v2 w2 own2 hb2 _; have hb2' := (hb1'.alloc hb1'.size _).trans hb2))
            go_roundg (r.size - k)
            case measure => omega
            case rel =>
              refine ⟨_, _, rfl, hd, by omega, by simp; omega, own2, Lib.hid ?_, hb2'⟩
              rw [← hacc.out, cons.out, hh.out, hd2.out]
              simp
        · have hh : Hid (pcxPkHead k r[0] = [r[0]]) := Lib.hid (by rw [pcxPkHead, if_neg (by omega)])
          have c1 : ¬ (1 : Int) < (k : Int) := by omega
          have c2 : ¬ (192 : Int) ≤ (r[0].toNat : Int) := by omega
          clear cc
          go_wp2_with ((at_builtin; refine wpList_append_byte rfl (.tmp 36) (.tmp 39) rfl w.heap.size _ acc rfl ((hown.drewN _).alloc _) _ rfl r[0] ?_ ?_ ?_ ?_; (exact cell_new _ _ _ 0 _ rfl); (omega); (simp; omega); intro v2 w2 own2 hb2 _; have hb2' := ((below_drewN hb m).alloc (by simp; omega) _).trans hb2))
          go_roundg (r.size - k)
          case measure => omega
          case rel =>
            refine ⟨_, _, rfl, hd, by omega, by simp; omega, own2, Lib.hid ?_, hb2'⟩
            rw [← hacc.out, cons.out, hh.out, hd2.out]
            simp
    · go_wp2_with (refine wpList_convert_owned rfl (.tmp 44) 9 Tryz.underlying9 rfl _ _ _ rfl hown ?_)
      go_ret
      have : r.data.toList = [] := List.eq_nil_of_length_eq_zero (by rw [list_len]; omega)
      have hacc' := hacc.out
      rw [this, pcxPack_nil, List.append_nil] at hacc'
      exact ⟨ret1 (vstr (by rw [hacc'])), hb⟩

end Go.Proofs.YtccldalagbfmhaaGreat
namespace Go.Proofs.YtccldalagbfmhaaGreat
open Go.RowKit
set_option linter.unusedVariables false

theorem pcxAwake (w : World) :
    Calls Tryz.prog 28 #[] w fun e w' => e = .returned (.bool true) ∧ Below w.heap.size w w' := by
  have e1 := Lib.hid pcxPack_awake
  go_enter Tryz.func28, Tryz.ntmps28
  go_wp2_with fail
  refine (pcxPack_any _ _ (by decide)).mono ?_
  rintro e w1 ⟨rfl, hb⟩
  rw [e1.out]
  go_wp2_with fail
  go_ret
  exact ⟨ret1 (vbool (by decide +kernel)), hb⟩

end Go.Proofs.YtccldalagbfmhaaGreat
